/- Plain laws of texts and lists as bytes: round trip, canonical form, prefixes. -/
import Derived.Test.YtjgkfkoaackeeaaGetTexts
import Derived.Test.YtjgkfkoaackeeaaPlainLaw
namespace Go.Proofs.Ytjgkfkoaackeeaa
open Go.RowKit

theorem bnext {a b c : World} (h : Below a.heap.size a b) (k : Below b.heap.size b c) : Below a.heap.size a c := h.trans (k.mono h.size)

theorem take_add (l : List UInt8) (a b : Nat) : l.take (a + b) = l.take a ++ (l.drop a).take b := List.take_add

theorem getT_canon {l x : List UInt8} {k : Int} (h : Cw.getT l = (x, k, 0)) : 1 ≤ k ∧ k ≤ l.length ∧ x.length ≤ 65536 ∧ l.take k.toNat = Cw.enc x.length ++ x := by
  obtain ⟨n, k', er', hI, hc⟩ := getT_cases l
  rcases hc with ⟨he, hr⟩ | ⟨_, _, hr⟩ | ⟨_, _, _, hr⟩ | ⟨he, hn, hl, hr⟩
  · rw [h] at hr; simp only [Prod.mk.injEq] at hr; exact absurd hr.2.2.symm he
  · rw [h] at hr; simp at hr
  · rw [h] at hr; simp at hr
  · subst he
    have hb := getI_bounds hI
    obtain ⟨hn0, hk, ht⟩ := Cw.getI_canon hI
    rw [h] at hr
    simp only [Prod.mk.injEq, and_true] at hr
    obtain ⟨hx, hkk⟩ := hr
    have hxl : x.length = n.toNat := by rw [hx, List.length_take, List.length_drop]; omega
    refine ⟨by omega, by omega, by omega, ?_⟩
    rw [hkk, show (k' + n).toNat = k'.toNat + n.toNat from by omega, take_add, ← hx, hxl]
    congr 1
    rw [hk, Int.toNat_natCast]; exact ht

theorem putT_ok {x : List UInt8} (h : x.length ≤ 65536) : putT x = (Cw.enc x.length ++ x, 0) := if_pos h

theorem getT_put {x : List UInt8} (h : x.length ≤ 65536) (rest : List UInt8) : Cw.getT ((Cw.enc x.length ++ x) ++ rest) = (x, ((Cw.enc x.length ++ x).length : Int), 0) := by
  have hI := Cw.getI_enc x.length (by omega) (x ++ rest)
  unfold Cw.getT
  rw [List.append_assoc, hI]
  rw [if_neg (by simp), if_neg (by simp; omega), if_neg (by simp; omega)]
  simp only [Int.toNat_natCast]
  rw [List.drop_left, List.take_left]; simp

theorem getT_short {x : List UInt8} (h : x.length ≤ 65536) (j : Nat) (hj : j < (Cw.enc x.length ++ x).length) : Cw.getT ((Cw.enc x.length ++ x).take j) = ([], 0, 12) := by
  by_cases hj2 : j < (Cw.enc x.length).length
  · have : (Cw.enc x.length ++ x).take j = (Cw.enc x.length).take j := by rw [List.take_append_of_le_length (by omega)]
    rw [this]
    unfold Cw.getT
    rw [Cw.getI_short _ _ (by omega) hj2]; rfl
  · have : (Cw.enc x.length ++ x).take j = Cw.enc x.length ++ x.take (j - (Cw.enc x.length).length) := by
      rw [List.take_append, List.take_of_length_le (by omega)]
    rw [this]
    have hI := Cw.getI_enc x.length (by omega) (x.take (j - (Cw.enc x.length).length))
    unfold Cw.getT
    rw [hI, if_neg (by simp), if_neg (by simp; omega), if_pos]
    rw [List.length_append] at hj ⊢
    rw [List.length_take]
    simp only; omega

def bodyL (xs : List (List UInt8)) : List UInt8 := xs.flatMap fun x => Cw.enc x.length ++ x

theorem body_ofL (xs : List (List UInt8)) : body (xs.map ofL) = bodyL xs := by
  unfold body bodyL
  rw [List.flatMap_map]
  refine congrArg (fun f => List.flatMap f xs) (funext fun x => ?_)
  show Cw.enc (ofL x).size ++ (ofL x).data.toList = _
  rw [show (ofL x).size = x.length from ba_len x]; rfl

theorem shorts_ofL {xs : List (List UInt8)} (h : ∀ x ∈ xs, x.length ≤ 65536) : shorts (xs.map ofL) = true := by
  unfold shorts
  rw [List.all_eq_true]
  intro s hs
  obtain ⟨x, hx, rfl⟩ := List.mem_map.1 hs
  rw [show (ofL x).size = x.length from ba_len x]
  simpa using h x hx

theorem tsGo_canon : ∀ (c at_ : Nat) (acc : List (List UInt8)) (l : List UInt8) (xs : List (List UInt8)) (k : Int), at_ ≤ l.length → Cw.tsGo c at_ acc l = (xs, k, 0) →
    ∃ ys, xs = acc ++ ys ∧ ys.length = c ∧ (∀ y ∈ ys, y.length ≤ 65536) ∧ (at_ : Int) ≤ k ∧ k ≤ l.length ∧ l.take k.toNat = l.take at_ ++ bodyL ys
  | 0, at_, acc, l, xs, k, hat, h => by
    simp only [Cw.tsGo, Prod.mk.injEq, and_true] at h
    obtain ⟨rfl, rfl⟩ := h
    exact ⟨[], by simp, rfl, by simp, by omega, by omega, by simp [bodyL]⟩
  | c + 1, at_, acc, l, xs, k, hat, h => by
    rw [Cw.tsGo] at h
    obtain ⟨x, q, er, hx⟩ : ∃ x q er, Cw.getT (l.drop at_) = (x, q, er) := ⟨_, _, _, rfl⟩
    rw [hx] at h
    by_cases he : er = 0
    · subst he
      rw [if_neg (by simp)] at h
      obtain ⟨h1, h2, h3, h4⟩ := getT_canon hx
      rw [List.length_drop] at h2
      obtain ⟨ys, e1, e2, e3, e4, e5, e6⟩ := tsGo_canon c (at_ + q.toNat) (acc ++ [x]) l xs k (by omega) h
      refine ⟨x :: ys, by rw [e1]; simp, by simp [e2], ?_, by omega, e5, ?_⟩
      · intro y hy
        rcases List.mem_cons.1 hy with rfl | hy
        · exact h3
        · exact e3 y hy
      · rw [e6, take_add, h4]; simp [bodyL]
    · rw [if_pos he] at h
      simp only [Prod.mk.injEq] at h
      exact absurd h.2.2 he

theorem getTs_canon {l : List UInt8} {xs : List (List UInt8)} {k : Int} (h : Cw.getTs l = (xs, k, 0)) : 1 ≤ k ∧ k ≤ l.length ∧ xs.length ≤ 1000 ∧ (∀ x ∈ xs, x.length ≤ 65536) ∧ l.take k.toNat = Cw.enc xs.length ++ bodyL xs := by
  obtain ⟨n, k', er, hI⟩ : ∃ n k er, Cw.getI l = (n, k, er) := ⟨_, _, _, rfl⟩
  unfold Cw.getTs at h
  rw [hI] at h
  by_cases he : er = 0
  · subst he
    rw [if_neg (by simp)] at h
    by_cases hn : 1000 < n
    · rw [if_pos hn] at h; simp at h
    · rw [if_neg hn] at h
      have hb := getI_bounds hI
      obtain ⟨hn0, hk, ht⟩ := Cw.getI_canon hI
      obtain ⟨ys, e1, e2, e3, e4, e5, e6⟩ := tsGo_canon _ _ _ _ _ _ (by simp only; omega) h
      simp only at e2 e4 e6
      rw [List.nil_append] at e1
      subst e1
      refine ⟨by omega, e5, by omega, e3, ?_⟩
      rw [e6, e2]
      congr 1
      rw [hk, Int.toNat_natCast]; exact ht
  · rw [if_pos he] at h
    simp only [Prod.mk.injEq] at h
    exact absurd h.2.2 he

theorem putTs_ofL {xs : List (List UInt8)} (h : xs.length ≤ 1000) (hs : ∀ x ∈ xs, x.length ≤ 65536) : putTs (xs.map ofL) = (Cw.enc xs.length ++ bodyL xs, 0) := by
  rw [putTs_ok (by rw [List.length_map]; exact h) (shorts_ofL hs), List.length_map, body_ofL]

theorem tsGo_put : ∀ (ys acc : List (List UInt8)) (pre rest : List UInt8), (∀ y ∈ ys, y.length ≤ 65536) → Cw.tsGo ys.length pre.length acc (pre ++ (bodyL ys ++ rest)) = (acc ++ ys, ((pre ++ bodyL ys).length : Int), 0)
  | [], acc, pre, rest, _ => by simp [Cw.tsGo, bodyL]
  | y :: ys, acc, pre, rest, h => by
    have h1 := getT_put (h y (by simp)) (bodyL ys ++ rest)
    have h2 : bodyL (y :: ys) ++ rest = (Cw.enc y.length ++ y) ++ (bodyL ys ++ rest) := by simp [bodyL]
    rw [List.length_cons, Cw.tsGo, List.drop_left, h2, h1, if_neg (by simp)]
    have h3 := tsGo_put ys (acc ++ [y]) (pre ++ (Cw.enc y.length ++ y)) rest (fun z hz => h z (by simp [hz]))
    simp only [Int.toNat_natCast]
    rw [show pre.length + (Cw.enc y.length ++ y).length = (pre ++ (Cw.enc y.length ++ y)).length from by simp [List.length_append], ← List.append_assoc pre (Cw.enc y.length ++ y) (bodyL ys ++ rest), h3]
    simp [bodyL]

theorem getTs_put {xs : List (List UInt8)} (h : xs.length ≤ 1000) (hs : ∀ x ∈ xs, x.length ≤ 65536) (rest : List UInt8) : Cw.getTs ((Cw.enc xs.length ++ bodyL xs) ++ rest) = (xs, ((Cw.enc xs.length ++ bodyL xs).length : Int), 0) := by
  have hI := Cw.getI_enc xs.length (by omega) (bodyL xs ++ rest)
  unfold Cw.getTs
  rw [List.append_assoc, hI, if_neg (by simp), if_neg (by simp; omega)]
  simp only [Int.toNat_natCast]
  rw [tsGo_put xs [] (Cw.enc xs.length) rest hs]; simp

theorem tsGo_short : ∀ (ys acc : List (List UInt8)) (pre : List UInt8) (j : Nat), (∀ y ∈ ys, y.length ≤ 65536) → j < (bodyL ys).length → Cw.tsGo ys.length pre.length acc (pre ++ (bodyL ys).take j) = ([], 0, 12)
  | [], acc, pre, j, _, hj => by simp [bodyL] at hj
  | y :: ys, acc, pre, j, h, hj => by
    have h2 : bodyL (y :: ys) = (Cw.enc y.length ++ y) ++ bodyL ys := by simp [bodyL]
    rw [List.length_cons, Cw.tsGo, List.drop_left, h2]
    by_cases hj2 : j < (Cw.enc y.length ++ y).length
    · rw [List.take_append_of_le_length (by omega), getT_short (h y (by simp)) j hj2]; rfl
    · rw [List.take_append, List.take_of_length_le (by omega), getT_put (h y (by simp)), if_neg (by simp)]
      simp only [Int.toNat_natCast]
      rw [show pre.length + (Cw.enc y.length ++ y).length = (pre ++ (Cw.enc y.length ++ y)).length from by simp [List.length_append], ← List.append_assoc pre (Cw.enc y.length ++ y)]
      have hj3 : j - (Cw.enc y.length ++ y).length < (bodyL ys).length := by rw [h2, List.length_append] at hj; omega
      exact tsGo_short ys (acc ++ [y]) (pre ++ (Cw.enc y.length ++ y)) _ (fun z hz => h z (by simp [hz])) hj3

theorem getTs_short {xs : List (List UInt8)} (h : xs.length ≤ 1000) (hs : ∀ x ∈ xs, x.length ≤ 65536) (j : Nat) (hj : j < (Cw.enc xs.length ++ bodyL xs).length) : Cw.getTs ((Cw.enc xs.length ++ bodyL xs).take j) = ([], 0, 12) := by
  by_cases hj2 : j < (Cw.enc xs.length).length
  · rw [List.take_append_of_le_length (by omega)]
    unfold Cw.getTs
    rw [Cw.getI_short _ _ (by omega) hj2]; rfl
  · rw [List.take_append, List.take_of_length_le (by omega)]
    have hI := Cw.getI_enc xs.length (by omega) ((bodyL xs).take (j - (Cw.enc xs.length).length))
    unfold Cw.getTs
    rw [hI, if_neg (by simp), if_neg (by simp; omega)]
    simp only [Int.toNat_natCast]
    exact tsGo_short xs [] (Cw.enc xs.length) _ hs (by rw [List.length_append] at hj; omega)

end Go.Proofs.Ytjgkfkoaackeeaa
