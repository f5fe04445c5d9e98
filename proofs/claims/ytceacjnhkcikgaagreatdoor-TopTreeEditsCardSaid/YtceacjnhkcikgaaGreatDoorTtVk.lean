/- Trees of files on paper: why storing fails. -/
import Derived.Test.YtceacjnhkcikgaaGreatDoorTtVj
namespace Go.Proofs.YtceacjnhkcikgaaGreatDoor
open Go.RowKit
set_option linter.unusedVariables false

theorem put_err {p : List Itm} (ha : Asc p) {o : Ob} (he : (encodeS o).2 = 0) : (putS p o).2.2 = 0 ∨ (putS p o).2.2 = 16 := by
  rcases put_law ha o with ⟨_, _, h⟩ | h | ⟨h, _⟩
  · unfold itemO at h
    rw [if_pos he] at h
    cases h
  · exact .inr h
  · exact .inl h
theorem put_sub {p Q : List Itm} (ha : Asc p) (hQ : Asc Q) (hs : ∀ y ∈ p, y ∈ Q) {o : Ob} (he : (encodeS o).2 = 0) (hi : itO o ∈ Q) : (putS p o).2.2 = 0 := by
  have hk : (insS p (itO o)).2 = 0 := by
    cases hh : hitB p (itO o).d (posI p (itO o).d) with
    | false => rw [insS_miss (asc_at ha (itO o).d) hh]
    | true =>
      obtain ⟨hk, h1, h2⟩ := insS_hit (asc_at ha (itO o).d) hh
      have h3 := asc_same hQ (hs _ (List.getElem_mem hk)) hi h1
      rw [h2, if_pos (by rw [h3])]
  unfold putS
  rw [if_neg (by simpa using he)]
  have hk' : (insS p ⟨digS (encodeS o).1, (encodeS o).1⟩).2 = 0 := hk
  rw [if_neg (by simpa using hk')]
/-- Storing fails only by a collision; it does not fail where all items lie in one pool. -/
theorem store_ends : ∀ (n : Nat) {l : List Fl} {p : List Itm}, 0 < n → OkF n l → SzF l → Asc p → ((storeF n p l).2.2 = 0 ∨ (storeF n p l).2.2 = 16) ∧ ∀ Q, Asc Q → (∀ y ∈ p, y ∈ Q) → (∀ y ∈ (pureF n l).1, y ∈ Q) → (storeF n p l).2.2 = 0
  | 0, l, p, hn, _, _, _ => by omega
  | n + 1, l, p, _, ho, hs, ha => by
    rw [storeF, pureF]
    obtain ⟨e1, _⟩ := dir_enc ho hs
    have key : ∀ (ns : List Pa) (es : List Ent) {p : List Itm}, (∀ nm ∈ ns, nm ∈ namesS l) → es ++ ns.map (entE (pureF n) l) = (namesS l).map (entE (pureF n) l) → Asc p → ((storeGo (storeF n) l ns p es).2.2 = 0 ∨ (storeGo (storeF n) l ns p es).2.2 = 16) ∧ ∀ Q, Asc Q → (∀ y ∈ p, y ∈ Q) → (∀ y ∈ ns.flatMap (itmE (pureF n) l) ++ [itO (treeO ((namesS l).map (entE (pureF n) l)))], y ∈ Q) → (storeGo (storeF n) l ns p es).2.2 = 0 := by
      intro ns
      induction ns with
      | nil =>
        intro es p _ hes ha
        rw [List.map_nil, List.append_nil] at hes
        rw [storeGo, hes]
        exact ⟨put_err ha e1, fun Q hQ hp hi => put_sub ha hQ hp e1 (hi _ (by simp))⟩
      | cons nm ns ih =>
        intro es p hns hes ha
        have hnm := hns nm (by simp)
        rw [storeGo, List.flatMap_cons]
        rw [List.map_cons] at hes
        have hes2 : es ++ [entE (pureF n) l nm] ++ ns.map (entE (pureF n) l) = (namesS l).map (entE (pureF n) l) := by rw [List.append_assoc]; exact hes
        have ih := fun {p : List Itm} (ha : Asc p) => ih (es ++ [entE (pureF n) l nm]) (p := p) (fun m hm => hns m (by simp [hm])) hes2 ha
        cases hf : findF l nm with
        | some D =>
          have hE : entE (pureF n) l nm = ⟨nm, false, digO (blobO D)⟩ := by unfold entE; rw [hf]
          have hI : itmE (pureF n) l nm = [itO (blobO D)] := by unfold itmE; rw [hf]
          obtain ⟨b1, _⟩ := blob_enc (D := D) (hs.dat _ (findF_some hf))
          rw [hI]
          simp only
          by_cases h1 : (putS p (blobO D)).2.2 = 0
          · obtain ⟨g1, g2, g3, _⟩ := put_ok ha (show putS p (blobO D) = ((putS p (blobO D)).1, (putS p (blobO D)).2.1, 0) from Prod.ext rfl (Prod.ext rfl h1))
            rw [if_neg (by simpa using h1), g2, ← hE]
            obtain ⟨k1, k2⟩ := ih g1
            refine ⟨k1, fun Q hQ hp hi => k2 Q hQ (fun y hy => ?_) (fun y hy => hi y (by rw [List.append_assoc]; exact List.mem_append_right _ hy))⟩
            rcases (g3 y).1 hy with h | rfl
            · exact hp y h
            · exact hi _ (by simp)
          · rw [if_pos h1]
            refine ⟨?_, fun Q hQ hp hi => absurd (put_sub ha hQ hp b1 (hi _ (by simp))) h1⟩
            rcases put_err ha b1 with h | h
            · exact absurd h h1
            · exact .inr h
        | none =>
          have hE : entE (pureF n) l nm = ⟨nm, true, (pureF n (insideS l nm)).2⟩ := by unfold entE; rw [hf]
          have hI : itmE (pureF n) l nm = (pureF n (insideS l nm)).1 := by unfold itmE; rw [hf]
          obtain ⟨y0, hy0⟩ := List.exists_mem_of_ne_nil _ (deep_of hnm hf)
          have hin := ho.inside nm
          obtain ⟨s1, s2⟩ := store_ends n (hin.pos hy0) hin (hs.inside nm) ha
          rw [hI]
          simp only
          by_cases h1 : (storeF n p (insideS l nm)).2.2 = 0
          · obtain ⟨g1, g2, g3⟩ := store_pure n ha (show storeF n p (insideS l nm) = ((storeF n p (insideS l nm)).1, (storeF n p (insideS l nm)).2.1, 0) from Prod.ext rfl (Prod.ext rfl h1))
            rw [if_neg (by simpa using h1), g2, ← hE]
            obtain ⟨k1, k2⟩ := ih g1
            refine ⟨k1, fun Q hQ hp hi => k2 Q hQ (fun y hy => ?_) (fun y hy => hi y (by rw [List.append_assoc]; exact List.mem_append_right _ hy))⟩
            rcases (g3 y).1 hy with h | h
            · exact hp y h
            · exact hi _ (by rw [List.append_assoc]; exact List.mem_append_left _ h)
          · rw [if_pos h1]
            refine ⟨?_, fun Q hQ hp hi => absurd (s2 Q hQ hp (fun y hy => hi _ (by rw [List.append_assoc]; exact List.mem_append_left _ hy))) h1⟩
            rcases s1 with h | h
            · exact absurd h h1
            · exact .inr h
    exact key (namesS l) [] (fun nm h => h) rfl ha
end Go.Proofs.YtceacjnhkcikgaaGreatDoor
