/- object.Links, slices.Clone and slices.Equal at digests. -/
import Derived.Test.YtlfodnehgedpmaaPoMp
namespace Go.Proofs.Ytlfodnehgedpmaa
open Go.RowKit Go.Shelf
set_option linter.unusedVariables false

/-- The digests that an object refers to. -/
def linksS (o : Ob) : List (Int × Int) := if (encodeS o).2 ≠ 0 then [] else o.ents.map (·.d) ++ (if o.kind = 3 then o.tree :: o.pars else [])
def GotDs (w : World) (ds : List (Int × Int)) (e : Ending) (w' : World) : Prop := ∃ a c, e = .returned (.slice a ds.length c) ∧ w'.ownsRow w.heap.size 30 2 (.slice a ds.length c) ds.length (dcells ds) ∧ Below w.heap.size w w'
theorem map_take_succ (es : List Ent) (k : Nat) (h : k < es.length) : (es.take (k + 1)).map (·.d) = (es.take k).map (·.d) ++ [es[k].d] := by
  rw [List.take_succ_eq_append_getElem h, List.map_append]; rfl
/-- One digest behind a row. -/
theorem append_one {W : World} {base : Nat} {v : Value} {xs : List (Int × Int)} (hown : W.ownsRow base 30 2 v xs.length (dcells xs)) (d1 d2 : Int) (hlen : (xs.length : Int) ≤ 1000000) (hbase : base ≤ W.heap.size) :
    ∃ v' W', (Builtin.append_ #[31, 31] 31 #[v, .slice (some ⟨W.heap.size, 0, none⟩) 1 1]).run Try.prog (W.alloc (.cells #[.int .u64 d1, .int .u64 d2] 30)) = .ok v' W' ∧ W'.ownsRow base 30 2 v' (xs ++ [(d1, d2)]).length (dcells (xs ++ [(d1, d2)])) ∧ (W.alloc (.cells #[.int .u64 d1, .int .u64 d2] 30)).grownBy W' v.ownBlock ∧ (v'.ownBlock = v.ownBlock ∨ v'.ownBlock = some (W.heap.size + 1)) := by
  have h := append_digs (W.alloc (.cells #[.int .u64 d1, .int .u64 d2] 30)) base 31 v xs (hown.alloc _) (some ⟨W.heap.size, 0, none⟩) [(d1, d2)] 1 (fun i hi => by
    obtain rfl : i = 0 := by simp at hi; omega
    have hk := BK.new W #[.int .u64 d1, .int .u64 d2] 30
    exact ⟨_, 0, rfl, hk.lt, by rw [Nat.zero_mul, hk.cell]; rfl, by rw [Nat.zero_mul, hk.cell]; rfl⟩) (by simp; omega) (by simp; omega)
  simpa using h

set_option maxRecDepth 100000 in
set_option maxHeartbeats 2000000 in
theorem links_any (o : Ob) (ea : Option Addr) (ec : Nat) (pa : Option Addr) (pc : Nat) (w : World) (h : ObIn w o ea ec pa pc) (hb : ObB o) :
    Calls Try.prog 16 #[o.val ea ec pa pc] w (GotDs w (linksS o)) := by
  have HC := Lib.hid (fun W (hW : Below w.heap.size w W) => ocheck_any o ea ec pa pc W (h.below hW))
  obtain ⟨R, hR⟩ : ∃ R, R = linksS o := ⟨_, rfl⟩
  rw [← hR]
  unfold linksS at hR
  generalize (encodeS o).2 = er at HC hR
  have hel := hb.elen
  have hpl := hb.plen
  have HEN := Lib.hid h.ents
  have HPA := Lib.hid h.pars
  clear h hb
  obtain ⟨kind, data, ents, ⟨t1, t2⟩, pars, author, time, msg⟩ := o
  simp only [Ob.val] at HC hR hel hpl HEN HPA ⊢
  obtain ⟨ne, hne⟩ : ∃ ne, ne = ents.length := ⟨_, rfl⟩
  obtain ⟨np, hnp⟩ : ∃ np, np = pars.length := ⟨_, rfl⟩
  rw [← hne] at HC hel ⊢
  rw [← hnp] at HC hpl ⊢
  have HNE := Lib.hid hne
  have HNP := Lib.hid hnp
  clear hne hnp
  obtain ⟨cs, hcs⟩ : ∃ cs : Array Value, cs = #[.int .i64 kind, .string ⟨data.toArray⟩, .slice ea ne ec, .int .u64 t1, .int .u64 t2, .slice pa np pc, .string ⟨author.toArray⟩, .int .i64 time, .string ⟨msg.toArray⟩] := ⟨_, rfl⟩
  have HX := Lib.hid (HC.out (w.alloc (.cells #[.int .i64 kind, .string ⟨data.toArray⟩, .slice ea ne ec, .int .u64 t1, .int .u64 t2, .slice pa np pc, .string ⟨author.toArray⟩, .int .i64 time, .string ⟨msg.toArray⟩] 33)) ((Below.refl _ w).alloc (Nat.le_refl _) _))
  have HK0 : Hid (BK w.heap.size cs 33 (w.alloc (.cells #[.int .i64 kind, .string ⟨data.toArray⟩, .slice ea ne ec, .int .u64 t1, .int .u64 t2, .slice pa np pc, .string ⟨author.toArray⟩, .int .i64 time, .string ⟨msg.toArray⟩] 33))) := Lib.hid (by rw [hcs]; exact BK.new _ _ _)
  have HCS := Lib.hid hcs
  clear hcs HC
  by_cases he : er = 0
  · subst he
    rw [if_neg (by simp)] at hR
    have HR := Lib.hid hR
    clear hR
    go_enter Try.func16, Try.ntmps16
    go_wp2_with fail
    have hx := HX.out
    (with_reducible refine hx.mono ?_)
    clear hx HX
    rintro e u ⟨rfl, hb⟩
    have HKU : Hid (BK w.heap.size cs 33 u) := Lib.hid (HK0.out.below hb)
    have HBU : Hid (Below w.heap.size w u) := Lib.hid (((Below.refl _ w).alloc (Nat.le_refl _) _).trans (hb.mono (by simp)))
    have hus : w.heap.size + 1 ≤ u.heap.size := by have := hb.size; simpa using this
    have c2 : u.cell? ⟨w.heap.size, 2, none⟩ = some (.slice ea ne ec) := by rw [HKU.out.cell, HCS.out]; rfl
    clear hb HK0
    go_wp2_with fail
    go_loopw [3, 12] (fun v i wr => ∃ k : Nat, k ≤ ne ∧ i = .int .i64 k ∧ w.heap.size + 1 ≤ wr.heap.size ∧ Hid (wr.ownsRow (w.heap.size + 1) 30 2 v ((ents.take k).map (·.d)).length (dcells ((ents.take k).map (·.d)))) ∧ Hid (Below w.heap.size w wr) ∧ Hid (BK w.heap.size cs 33 wr)) (fun _ i _ => ne - (intOf i).toNat)
    case atStart => exact ⟨0, by omega, rfl, hus, Lib.hid (World.ownsRow_nil _ _ _ _), HBU, HKU⟩
    case round =>
      clear HKU HBU c2 hus
      obtain ⟨k, hk, rfl, hws, HO, HB, HK⟩ := hrel
      have hlk : ((ents.take k).map (·.d)).length = k := by rw [List.length_map, List.length_take]; have := HNE.out; omega
      obtain ⟨av, cv, rfl, hcap⟩ := ownsRow_sliceN HO.out
      by_cases hlt : k < ne
      · have h1 : k < ents.length := by have := HNE.out; omega
        obtain ⟨b0, o0, rfl, hb0, q0, q1, q2, q3⟩ := (HEN.out.below HB.out (Nat.le_refl _)) k h1
        have HMS := Lib.hid (map_take_succ ents k h1)
        generalize ents[k] = en at q0 q1 q2 q3 HMS
        obtain ⟨nm, dir, d1, d2⟩ := en
        simp only at q0 q1 q2 q3 HMS
        obtain ⟨u1, hu1⟩ : ∃ u1, u1 = wr.alloc (.cells #[.string ⟨nm.toArray⟩, .bool dir, .int .u64 d1, .int .u64 d2] 42) := ⟨_, rfl⟩
        have hz1 : u1.heap.size = wr.heap.size + 1 := by rw [hu1]; simp
        have HO1 : Hid (u1.ownsRow (w.heap.size + 1) 30 2 _ _ _) := Lib.hid (by rw [hu1]; exact HO.out.alloc _)
        have HB1 : Hid (Below w.heap.size w u1) := Lib.hid (by rw [hu1]; exact HB.out.alloc (by omega) _)
        have HK1 : Hid (BK w.heap.size cs 33 u1) := Lib.hid (by rw [hu1]; exact HK.out.alloc _)
        obtain ⟨v', W', hrun, hown', hg', hat'⟩ := append_one HO1.out d1 d2 (by omega) (by omega)
        have hne : (Value.slice av ((ents.take k).map (·.d)).length cv).ownBlock ≠ some w.heap.size := fun hh => by have := (HO.out.lt _ hh).1; omega
        have HO2 : Hid (W'.ownsRow (w.heap.size + 1) 30 2 v' ((ents.take (k + 1)).map (·.d)).length (dcells ((ents.take (k + 1)).map (·.d)))) := Lib.hid (by rw [HMS.out]; exact hown')
        have HB2 : Hid (Below w.heap.size w W') := Lib.hid ((HB1.out.alloc (by omega) _).grown hg' (by simp; omega) (fun j hj => by have := (HO.out.lt _ hj).1; omega))
        have HK2 : Hid (BK w.heap.size cs 33 W') := Lib.hid ((HK1.out.alloc _).grow hg' (fun j hj e => hne (by rw [hj, e])))
        have hws2 : w.heap.size + 1 ≤ W'.heap.size := by have := hg'.size; simp at this; omega
        rw [hz1, hu1] at hrun
        have HRUN := Lib.hid hrun
        clear hrun hown' hg' hat' hu1 HO1 HB1 HK1 hlk hne
        generalize ((ents.take k).map (·.d)).length = m at HRUN hcap ⊢
        go_wp2_with (at_builtin; refine Lib.wpList_append_run _ rfl _ _ _ _ rfl _ _ rfl rfl _ _ HRUN.out ?_)
        go_roundw
        case rel => exact ⟨k + 1, by omega, by go_num, hws2, HO2, HB2, HK2⟩
        case measure => simp [intOf]; omega
      · have hfull : ents.take k = ents := List.take_of_length_le (by have := HNE.out; omega)
        rw [hfull] at HO hcap hlk ⊢
        clear hfull
        have c0 : wr.cell? ⟨w.heap.size, 0, none⟩ = some (.int .i64 kind) := by rw [HK.out.cell, HCS.out]; rfl
        by_cases h3 : kind = 3
        · subst h3
          rw [if_pos rfl] at HR
          have c3 : wr.cell? ⟨w.heap.size, 3, none⟩ = some (.int .u64 t1) := by rw [HK.out.cell, HCS.out]; rfl
          have c4 : wr.cell? ⟨w.heap.size, 4, none⟩ = some (.int .u64 t2) := by rw [HK.out.cell, HCS.out]; rfl
          obtain ⟨v1, W1, hrun1, hown1, hg1, _⟩ := append_one HO.out t1 t2 (by omega) (by omega)
          have hne : (Value.slice av (ents.map (·.d)).length cv).ownBlock ≠ some w.heap.size := fun hh => by have := (HO.out.lt _ hh).1; omega
          have HB1 : Hid (Below w.heap.size w W1) := Lib.hid ((HB.out.alloc (by omega) _).grown hg1 (by simp; omega) (fun j hj => by have := (HO.out.lt _ hj).1; omega))
          have HK1 : Hid (BK w.heap.size cs 33 W1) := Lib.hid ((HK.out.alloc _).grow hg1 (fun j hj e => hne (by rw [hj, e])))
          have hws1 : w.heap.size + 1 ≤ W1.heap.size := by have := hg1.size; simp at this; omega
          have c5 : W1.cell? ⟨w.heap.size, 5, none⟩ = some (.slice pa np pc) := by rw [HK1.out.cell, HCS.out]; rfl
          obtain ⟨v2, W2, hrun2, hown2, hg2, _⟩ := append_digs W1 (w.heap.size + 1) 31 v1 _ hown1 pa pars pc ((HPA.out.below HB1.out (Nat.le_refl _)).mono HB1.out.size) (by simp; have := HNP.out; have := HNE.out; simp at hlk; omega) (by omega)
          have HB2 : Hid (Below w.heap.size w W2) := Lib.hid (HB1.out.grown hg2 HB1.out.size (fun j hj => by have := (hown1.lt _ hj).1; omega))
          rw [← HNP.out] at hrun2
          have HRUN1 := Lib.hid hrun1
          have HRUN2 := Lib.hid hrun2
          have HO2 := Lib.hid hown2
          clear hrun1 hrun2 hown1 hown2 hg1 hg2 HK1 HB1 hlk
          have hRl : R = ents.map (·.d) ++ [(t1, t2)] ++ pars := by rw [HR.out]; simp
          have HRL := Lib.hid hRl
          clear hRl
          generalize (ents.map (·.d)).length = m at HRUN1 hcap ⊢
          have tok1 : True := trivial
          go_wp2_with (at_builtin; first | (have _t := tok1; refine Lib.wpList_append_run _ rfl _ _ _ _ rfl _ _ rfl rfl _ _ HRUN1.out ?_; clear _t tok1) | (refine Lib.wpList_append_run _ rfl _ _ _ _ rfl _ _ rfl rfl _ _ HRUN2.out ?_))
          obtain ⟨a2, cap2, rfl, _⟩ := ownsRow_sliceN HO2.out
          go_ret
          rw [HRL.out]
          exact ⟨a2, cap2, rfl, own_le HO2.out (by omega), HB2.out⟩
        · rw [if_neg h3, List.append_nil] at HR
          have e3 : (kind == 3) = false := by simpa using h3
          clear h3 hlk
          have HO2 := Lib.hid HO.out
          rw [← HR.out] at HO2 ⊢
          clear HO
          go_wp2_with fail
          go_ret
          exact ⟨av, cv, rfl, own_le HO2.out (by omega), HB.out⟩
  · rw [if_pos he] at hR
    have HR := Lib.hid hR
    have hne : (er != 0) = true := by simpa using he
    clear hR he
    go_enter Try.func16, Try.ntmps16
    go_wp2_with fail
    have hx := HX.out
    (with_reducible refine hx.mono ?_)
    clear hx HX
    rintro e u ⟨rfl, hb⟩
    have HBU : Hid (Below w.heap.size w u) := Lib.hid (((Below.refl _ w).alloc (Nat.le_refl _) _).trans (hb.mono (by simp)))
    clear hb
    go_wp2_with fail
    go_ret
    rw [HR.out]
    exact ⟨none, 0, rfl, World.ownsRow_nil _ _ _ _, HBU.out⟩
end Go.Proofs.Ytlfodnehgedpmaa
