/- codec.GetTexts and the reference's GetTexts. -/
import Derived.Test.YtjgkfkoaackeeaaSlices
import Derived.Test.YtjgkfkoaackeeaaAwake
namespace Go.Proofs.Ytjgkfkoaackeeaa
open Go.RowKit

namespace Cw
/-- Reading so many texts from an offset on. -/
def tsGo : Nat → Nat → List (List UInt8) → List UInt8 → List (List UInt8) × Int × Int
  | 0, at_, acc, _ => (acc, at_, 0)
  | c + 1, at_, acc, l =>
    if (getT (l.drop at_)).2.2 ≠ 0 then ([], 0, (getT (l.drop at_)).2.2)
    else tsGo c (at_ + (getT (l.drop at_)).2.1.toNat) (acc ++ [(getT (l.drop at_)).1]) l
def getTs (l : List UInt8) : List (List UInt8) × Int × Int :=
  if (getI l).2.2 ≠ 0 then ([], 0, (getI l).2.2)
  else if 1000 < (getI l).1 then ([], 0, 13)
  else tsGo (getI l).1.toNat (getI l).2.1.toNat [] l
end Cw

def ofL (l : List UInt8) : ByteArray := ⟨l.toArray⟩

/-- What a slice of texts that a function returned is. -/
def GotTs (w : World) (r : List (List UInt8) × Int × Int) (e : Ending) (w' : World) : Prop :=
  ∃ a cap, e = .returned (.tuple #[.slice a r.1.length cap, .int .i64 r.2.1, .int .i64 r.2.2]) ∧ Strs w'.heap.size w' a (r.1.map ofL) ∧ Below w.heap.size w w'

theorem GotTs.nil1 (w : World) {r : List (List UInt8) × Int × Int} {er : Int} (h : r = ([], 0, er)) : GotTs w r (.returned (.tuple #[.slice none 0 0, .int .i64 0, .int .i64 er])) w := by
  subst h; exact ⟨Option.none, 0, rfl, fun i hi => by simp at hi, Below.refl _ _⟩

theorem GotTs.nil2 {w w' : World} (hb : Below w.heap.size w w') {r : List (List UInt8) × Int × Int} {er : Int} (h : r = ([], 0, er)) : GotTs w r (.returned (.tuple #[.slice none 0 0, .int .i64 0, .int .i64 er])) w' := by
  subst h; exact ⟨Option.none, 0, rfl, fun i hi => by simp at hi, hb⟩

theorem slice_from (s : ByteArray) (k : Nat) (hk : k ≤ s.size) : ∃ t : ByteArray, t.data.toList = s.data.toList.drop k ∧ t.size = s.size - k ∧ ∀ W, (Instr.slice 9 (.string s) (some (.int .i64 k)) Option.none Option.none).run Try.prog W = .ok (.string t) W := by
  refine ⟨s.extract k s.size, Lib.extract_to_end s k, ?_, fun W => run_slice_string_l (P := Try.prog) W (t := 9) s Try.underlying9 .i64 k (by omega) (by omega)⟩
  rw [← ba_size, Lib.extract_to_end, List.length_drop, ba_size]

set_option maxHeartbeats 1000000 in
theorem nextInt_is {s : ByteArray} {n k er : Int} (h : Cw.getI s.data.toList = (n, k, er)) (hs : (s.size : Int) ≤ 140737488355328) (w : World) :
    Calls Try.prog 34 #[.string s, .int .i64 0, .func (.func 13) #[] #[]] w fun e w' => e = .returned (.tuple #[.int .i64 n, .int .i64 k, .int .i64 er]) ∧ w = w' := by
  obtain ⟨t, ht, hts, hsl⟩ := slice_from s 0 (by omega)
  have hk : 0 ≤ k ∧ k ≤ 6 := by
    by_cases he : er = 0
    · subst he; have := getI_bounds h; omega
    · have h1 : (Cw.getI s.data.toList).2.2 ≠ 0 := by rw [h]; exact he
      rcases getGo_err 6 0 0 1 s.data.toList h1 with h2 | h2
      · have : Cw.getI s.data.toList = (0, 0, 12) := h2
        rw [h] at this; simp only [Prod.mk.injEq] at this; omega
      · have : Cw.getI s.data.toList = (0, 0, 13) := h2
        rw [h] at this; simp only [Prod.mk.injEq] at this; omega
  have HG := Lib.hid (getInt_is (s := t) (n := n) (k := k) (er := er) (by rw [ht, List.drop_zero]; exact h))
  clear h ht hts
  have hsl' : ∀ W, (Instr.slice 9 (.string s) (some (.int .i64 0)) Option.none Option.none).run Try.prog W = .ok (.string t) W := hsl
  clear hsl
  go_enter Try.func34, Try.ntmps34
  go_wp2_with (go_at_call 13; refine (HG.out _).mono ?_; rintro e w' ⟨rfl, rfl⟩)
  go_ret3
  exact ⟨rfl, rfl⟩

theorem getT_bounds {l x : List UInt8} {k er : Int} (h : Cw.getT l = (x, k, er)) : 0 ≤ k ∧ k ≤ l.length ∧ x.length ≤ 65536 := by
  obtain ⟨n, k', er', hI, hc⟩ := getT_cases l
  rcases hc with ⟨_, hr⟩ | ⟨_, _, hr⟩ | ⟨_, _, _, hr⟩ | ⟨he, hn, hl, hr⟩
  · rw [h] at hr; cases hr; simp
  · rw [h] at hr; cases hr; simp
  · rw [h] at hr; cases hr; simp
  · subst he
    have hb := getI_bounds hI
    rw [h] at hr; cases hr
    refine ⟨by omega, by omega, ?_⟩
    rw [List.length_take]; omega

set_option maxHeartbeats 1000000 in
theorem nextText_is {s : ByteArray} {at_ : Nat} {x : List UInt8} {k er : Int} (hat : at_ ≤ s.size) (h : Cw.getT (s.data.toList.drop at_) = (x, k, er)) (hs : (s.size : Int) ≤ 140737488355328) (w : World) :
    Calls Try.prog 35 #[.string s, .int .i64 at_, .func (.func 20) #[] #[]] w fun e w' => e = .returned (.tuple #[.string ⟨x.toArray⟩, .int .i64 (at_ + k), .int .i64 er]) ∧ w = w' := by
  obtain ⟨t, ht, hts, hsl⟩ := slice_from s at_ hat
  have hk := getT_bounds h
  rw [List.length_drop, ba_size] at hk
  have HG := Lib.hid (fun w => getText_is (s := t) (l := x) (k := k) (er := er) (by rw [ht]; exact h) w (by omega))
  clear h ht hts
  go_enter Try.func35, Try.ntmps35
  go_wp2_with (go_at_call 20; refine (HG.out _).mono ?_; rintro e w' ⟨rfl, rfl⟩)
  go_ret3
  exact ⟨rfl, rfl⟩

theorem infoStr : (Try.prog.info? 9).map (fun i => (i.zero, i.size, i.bytes)) = some (some (.string ⟨#[]⟩), 1, 16) := by kernel_rfl

def strCell (t : List UInt8) : Value := .string ⟨t.toArray⟩

theorem ownsRow_strs {w : World} {base : Nat} {a : Option Addr} {cap : Nat} {ts : List (List UInt8)} (h : w.ownsRow base 9 1 (.slice a ts.length cap) ts.length (ts.map strCell)) : Strs w.heap.size w a (ts.map ofL) := by
  intro i hi
  rw [List.length_map] at hi
  rcases h.2 with ⟨h1, h2⟩ | ⟨g, cap', cur, h1, _, hg, _⟩
  · omega
  · cases h1
    refine ⟨g, 0, rfl, (Array.getElem?_eq_some_iff.1 hg).1, ?_⟩
    have := h.cells (g := g) rfl i (strCell ts[i]) (by simp [hi])
    rw [← Go.WideShapes.add_plain, this, List.getElem_map]; rfl

/-- The relation of the loops that read texts. -/
def TsRel (l : List UInt8) (c at_ : Nat) (acc : List (List UInt8)) : Prop := Cw.tsGo c at_ acc l = Cw.getTs l

theorem TsRel.err {l x : List UInt8} {c at_ : Nat} {acc : List (List UInt8)} {k er : Int} (h : TsRel l (c + 1) at_ acc) (hg : Cw.getT (l.drop at_) = (x, k, er)) (he : er ≠ 0) : Cw.getTs l = ([], 0, er) := by
  rw [← h, Cw.tsGo, hg]; exact if_pos he
theorem TsRel.go {l x : List UInt8} {c at_ : Nat} {acc : List (List UInt8)} {k : Int} (h : TsRel l (c + 1) at_ acc) (hg : Cw.getT (l.drop at_) = (x, k, 0)) : TsRel l c (at_ + k.toNat) (acc ++ [x]) := by
  unfold TsRel at h ⊢
  rw [← h]
  conv => rhs; rw [Cw.tsGo, hg]
  rw [if_neg (by simp)]
theorem TsRel.fin {l : List UInt8} {at_ : Nat} {acc : List (List UInt8)} (h : TsRel l 0 at_ acc) : Cw.getTs l = (acc, (at_ : Int), 0) := h.symm

theorem getTs_err {l : List UInt8} {n k er : Int} (h : Cw.getI l = (n, k, er)) (he : er ≠ 0) : Cw.getTs l = ([], 0, er) := by
  unfold Cw.getTs; rw [h]; exact if_pos he
theorem getTs_many {l : List UInt8} {n k : Int} (h : Cw.getI l = (n, k, 0)) (hn : 1000 < n) : Cw.getTs l = ([], 0, 13) := by
  unfold Cw.getTs; rw [h, if_neg (by simp)]; exact if_pos hn
theorem getTs_start {l : List UInt8} {n k : Int} (h : Cw.getI l = (n, k, 0)) (hn : n ≤ 1000) : TsRel l n.toNat k.toNat [] := by
  unfold TsRel Cw.getTs; rw [h, if_neg (by simp), if_neg (by omega)]

theorem alloc1_str (w : World) (x : List UInt8) : ∀ (j : Nat) (u : Value), [strCell x][j]? = some u → (w.alloc (.cells #[.string ⟨x.toArray⟩] 9)).cell? ((⟨w.heap.size, 0, Option.none⟩ : Addr).add j) = some u := by
  intro j u hj
  match j, hj with
  | 0, hj => simp at hj; subst hj; simp [Addr.add, strCell]

set_option maxHeartbeats 2000000 in
theorem getTexts_any (s : ByteArray) (w : World) (hs : (s.size : Int) ≤ 140737488355328) :
    Calls Try.prog 25 #[.string s] w (GotTs w (Cw.getTs s.data.toList)) := by
  obtain ⟨i0, hi, hz0, hz1, hz2⟩ := info_parts infoStr
  obtain ⟨n, k, er, h⟩ : ∃ n k er, Cw.getI s.data.toList = (n, k, er) := ⟨_, _, _, rfl⟩
  have HG := Lib.hid (nextInt_is h hs)
  by_cases he : er = 0
  · subst he
    have hb := getI_bounds h
    rw [ba_size] at hb
    by_cases hn : n ≤ 1000
    · have HS := Lib.hid (getTs_start h hn)
      clear h
      obtain ⟨c, rfl⟩ : ∃ c : Nat, n = (c : Int) := ⟨n.toNat, by omega⟩
      obtain ⟨k0, rfl⟩ : ∃ k0 : Nat, k = (k0 : Int) := ⟨k.toNat, by omega⟩
      rw [Int.toNat_natCast, Int.toNat_natCast] at HS
      have t1 : decide (1000 < (c : Int)) = false := by simpa using hn
      go_enter Try.func25, Try.ntmps25
      go_wp2_with (go_at_call 34; refine (HG.out _).mono ?_; rintro e w' ⟨rfl, rfl⟩)
      go_loopw [6, 7, 8, 22] (fun p er v i wr => ∃ (j at_ : Nat) (acc : List (List UInt8)), j ≤ c ∧ at_ ≤ s.size ∧ acc.length = j ∧ p = .int .i64 at_ ∧ er = .int .i64 0 ∧ i = .int .i64 j ∧ wr.ownsRow w.heap.size 9 1 v acc.length (acc.map strCell) ∧ Below w.heap.size w wr ∧ TsRel s.data.toList (c - j) at_ acc) (fun _ _ _ i _ => c - (intOf i).toNat)
      case atStart => exact ⟨0, k0, [], by omega, by omega, rfl, rfl, rfl, rfl, World.ownsRow_nil _ _ _ _, Below.refl _ _, HS.out⟩
      case round =>
        obtain ⟨j, at_, acc, hj, hat, hacc, rfl, rfl, rfl, hown, hbel, hrel⟩ := hrel
        have hwr := hbel.size
        have HB := Lib.hid hbel
        have HR := Lib.hid hrel
        have HA := Lib.hid hacc
        rw [hacc] at hown
        have HO := Lib.hid hown
        clear hbel hrel hacc hown
        by_cases hlt : j < c
        · have HR1 : Hid (TsRel s.data.toList ((c - (j + 1)) + 1) at_ acc) := Lib.hid (by
            have := HR.out; rwa [show c - j = (c - (j + 1)) + 1 from by omega] at this)
          obtain ⟨x, q, er, hx⟩ : ∃ x q er, Cw.getT (s.data.toList.drop at_) = (x, q, er) := ⟨_, _, _, rfl⟩
          have hq := getT_bounds hx
          rw [List.length_drop, ba_size] at hq
          have HN := Lib.hid (nextText_is hat hx hs)
          by_cases he : er = 0
          · subst he
            have HR2 := Lib.hid (HR1.out.go hx)
            clear hx HR HR1
            obtain ⟨q0, rfl⟩ : ∃ q0 : Nat, q = (q0 : Int) := ⟨q.toNat, by omega⟩
            rw [Int.toNat_natCast] at HR2
            go_wp2_with fail
            refine (HN.out _).mono ?_
            rintro e w1 ⟨rfl, rfl⟩
            go_wp2_with (at_builtin; refine wpList_append_own _ rfl _ _ 37 rfl w.heap.size 9 i0 (.string ⟨#[]⟩) 1 16 Try.underlying37 hi hz0 hz1 hz2 rfl (by decide) _ _ _ rfl (HO.out.alloc _) ⟨wr.heap.size, 0, Option.none⟩ 1 1 [strCell x] rfl rfl ?c1 ?c2 ?c3 ?c4 ?c5 ?_)
            case c1 => exact alloc1_str wr x
            case c2 => intro u hu; simp at hu; subst hu; rfl
            case c3 => unfold maxLen; omega
            case c4 => omega
            case c5 => simp; omega
            intro v' w2 hown2 hgrow _
            have HB2 := Lib.hid ((HB.out.alloc (by omega) (.cells #[.string ⟨x.toArray⟩] 9)).grown hgrow (by simp; omega) (fun k hk => (HO.out.lt k hk).1))
            have HO2 := Lib.hid hown2
            clear hown2 hgrow
            go_wp2_with fail
            go_roundw
            case rel =>
              refine ⟨j + 1, at_ + q0, acc ++ [x], by omega, by omega, by rw [List.length_append, HA.out]; rfl, by go_num, rfl, by go_num, ?_, HB2.out, HR2.out⟩
              rw [List.map_append, List.length_append, HA.out]; exact HO2.out
            case measure => simp [intOf]; omega
          · have HE := Lib.hid (HR1.out.err hx he)
            clear hx HR HR1
            have he' : (er != 0) = true := by simpa using he
            clear he
            go_wp2_with fail
            refine (HN.out _).mono ?_
            rintro e w1 ⟨rfl, rfl⟩
            go_wp2_with fail
            go_ret3
            exact GotTs.nil2 HB.out HE.out
        · obtain rfl : j = c := by omega
          have HF := Lib.hid (TsRel.fin (show TsRel s.data.toList 0 at_ acc by have := HR.out; rwa [Nat.sub_self] at this))
          clear HR
          obtain ⟨av, cv, rfl⟩ := ownsRow_slice HO.out
          go_wp2_with fail
          go_ret3
          refine ⟨av, cv, ?_, ?_, HB.out⟩
          · rw [HF.out]; show _ = Ending.returned (.tuple #[.slice av acc.length cv, _, _]); rw [HA.out]; rfl
          · rw [HF.out]
            have := HO.out
            rw [← HA.out] at this
            exact ownsRow_strs this
    · have HE := Lib.hid (getTs_many h (by omega))
      clear h
      go_enter Try.func25, Try.ntmps25
      go_wp2_with (go_at_call 34; refine (HG.out _).mono ?_; rintro e w' ⟨rfl, rfl⟩)
      go_ret3
      exact GotTs.nil1 _ HE.out
  · have HE := Lib.hid (getTs_err h he)
    clear h
    have he' : (er != 0) = true := by simpa using he
    clear he
    go_enter Try.func25, Try.ntmps25
    go_wp2_with (go_at_call 34; refine (HG.out _).mono ?_; rintro e w' ⟨rfl, rfl⟩)
    go_ret3
    exact GotTs.nil1 _ HE.out

end Go.Proofs.Ytjgkfkoaackeeaa
