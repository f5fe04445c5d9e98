/- Trees of files on paper: every object can be encoded; what a visit finds of what was stored. -/
import Derived.Test.YtceacjnhkcikgaaGreatDoorTtVi
namespace Go.Proofs.YtceacjnhkcikgaaGreatDoor
open Go.RowKit
set_option linter.unusedVariables false

/-- Few files, none too great. -/
structure SzF (l : List Fl) : Prop where
  len : l.length ≤ 200
  dat : ∀ x ∈ l, x.data.length ≤ 60000
theorem SzF.inside {l : List Fl} (h : SzF l) (nm : Pa) : SzF (insideS l nm) := by
  refine ⟨?_, fun y hy => ?_⟩
  · unfold insideS
    rw [List.length_map]
    exact Nat.le_trans (List.length_filter_le _ _) h.len
  · obtain ⟨x, hx, _, _, rfl⟩ := inside_mem.1 hy
    exact h.dat x hx
theorem digS_nz (l : List UInt8) : digS l ≠ (0, 0) := by
  unfold digS
  split
  · decide
  · rename_i h
    intro e
    exact h ⟨congrArg Prod.fst e, congrArg Prod.snd e⟩
theorem okD_00 : OkD (0, 0) := ⟨⟨by decide, by decide⟩, by decide, by decide⟩
theorem blob_enc {D : Pa} (h : D.length ≤ 60000) : (encodeS (blobO D)).2 = 0 ∧ OkO (blobO D) := by
  refine ⟨?_, okD_00, fun d hd => by simp [blobO] at hd, fun e he => by simp [blobO] at he⟩
  unfold encodeS
  have hc : checkS (blobO D) = 0 := by unfold checkS blobO hasC; simp
  have hb : (bodyO (blobO D)).length ≤ 65536 := by
    unfold bodyO blobO
    simp only [List.length_append]
    rw [if_neg (by decide), if_neg (by decide)]
    unfold putX
    rw [List.length_append]
    have h1 := enc_length (1 : Int).toNat
    have h2 := enc_length D.length
    omega
  rw [if_neg (by simpa using hc), if_neg (by omega)]
theorem entGo_ok : ∀ (es : List Ent) (p : Option Pa), (∀ e ∈ es, nameB e.name = true ∧ e.d ≠ (0, 0)) → (es.map (·.name)).Pairwise ltS → (∀ q, p = some q → ∀ e ∈ es, ltS q e.name) → entGo p es = 0
  | [], _, _, _, _ => rfl
  | e :: es, p, h1, h2, h3 => by
    rw [entGo]
    obtain ⟨g1, g2⟩ := h1 e (by simp)
    have hp : prevB p e.name = false := by
      cases p with
      | none => rfl
      | some q =>
        have h := h3 q rfl e (by simp)
        simp only [prevB, leB, Bool.or_eq_false_iff]
        constructor
        · cases hb : Op.bytesLess e.name q with
          | false => rfl
          | true => exact absurd (ltS_trans h hb) (ltS_irrefl _)
        · simp only [beq_eq_false_iff_ne, ne_eq]
          intro e2
          rw [e2] at h
          exact ltS_irrefl _ h
    rw [List.map_cons] at h2
    obtain ⟨k1, k2⟩ := List.pairwise_cons.1 h2
    rw [if_neg (by simp [g1]), if_neg (by simp [hp]), if_neg g2]
    refine entGo_ok es _ (fun x hx => h1 x (by simp [hx])) k2 (fun q hq x hx => ?_)
    cases hq
    exact k1 _ (List.mem_map.2 ⟨x, hx, rfl⟩)
theorem ents_len : ∀ es : List Ent, (∀ e ∈ es, e.name.length ≤ 24) → (es.flatMap entX).length ≤ es.length * 60
  | [], _ => by simp
  | e :: es, h => by
    rw [List.flatMap_cons, List.length_append, List.length_cons]
    have h1 := ents_len es (fun x hx => h x (by simp [hx]))
    have h2 := h e (by simp)
    have h3 : (entX e).length ≤ 60 := by
      unfold entX putX
      simp only [List.length_append, beD_length]
      have g1 : (Cw.enc e.name.length).length ≤ 10 := enc_length _
      have g2 : (Cw.enc (dirN e.dir)).length ≤ 10 := enc_length _
      omega
    omega
theorem tree_enc {es : List Ent} (h1 : es.length ≤ 200) (h2 : ∀ e ∈ es, nameB e.name = true ∧ e.d ≠ (0, 0) ∧ OkD e.d) (h3 : (es.map (·.name)).Pairwise ltS) : (encodeS (treeO es)).2 = 0 ∧ OkO (treeO es) := by
  refine ⟨?_, okD_00, fun d hd => by simp [treeO] at hd, fun e he => (h2 e he).2.2⟩
  unfold encodeS
  have hc : checkS (treeO es) = 0 := by
    unfold checkS treeO
    simp only
    rw [if_neg (by decide), if_pos trivial, if_neg (by unfold hasC; simp)]
    unfold entsE
    rw [if_neg (by omega)]
    exact entGo_ok es none (fun e he => ⟨(h2 e he).1, (h2 e he).2.1⟩) h3 (fun q hq => by cases hq)
  have hb : (bodyO (treeO es)).length ≤ 65536 := by
    unfold bodyO treeO
    simp only [List.length_append]
    rw [if_pos trivial, List.length_append]
    have g1 := enc_length (2 : Int).toNat
    have g2 := enc_length es.length
    have g3 := ents_len es (fun e he => (nameB_length (h2 e he).1).2)
    omega
  rw [if_neg (by simpa using hc), if_neg (by omega)]
theorem withF_len : ∀ (l : List Fl) (f : Fl), (withF l f).length ≤ l.length + 1
  | [], f => by simp [withF]
  | x :: l, f => by
    rw [withF]
    have := withF_len l f
    split
    · simp; omega
    · split <;> simp
theorem names_len (l : List Fl) : (namesS l).length ≤ l.length := by
  have key : ∀ (l acc : List Fl), (l.foldl (fun acc x => withF acc ⟨firstS x, []⟩) acc).length ≤ acc.length + l.length := by
    intro l
    induction l with
    | nil => intro acc; simp
    | cons x l ih =>
      intro acc
      rw [List.foldl_cons, List.length_cons]
      have := ih (withF acc ⟨firstS x, []⟩)
      have := withF_len acc ⟨firstS x, []⟩
      omega
  unfold namesS nameL
  rw [List.length_map]
  have := key l []
  simpa using this
theorem OkF.pos {n : Nat} {l : List Fl} (h : OkF n l) {x : Fl} (hx : x ∈ l) : 0 < n := by
  have := h.path x hx
  cases n with
  | zero => rw [pathF] at this; cases this
  | succ n => omega
/-- A name that is no file is a directory. -/
theorem deep_of {l : List Fl} {nm : Pa} (hn : nm ∈ namesS l) (hf : findF l nm = none) : insideS l nm ≠ [] := by
  obtain ⟨x, hx, e⟩ := names_mem.1 hn
  cases hd : deepS x with
  | true =>
    intro h
    have := inside_mem.2 ⟨x, hx, hd, e, rfl⟩
    rw [h] at this
    cases this
  | false =>
    have := findF_none hf x hx
    rw [(flat_path hd).1] at this
    exact absurd e this
theorem pureF_dig {n : Nat} (h : 0 < n) (l : List Fl) : ∃ o, (pureF n l).2 = digO o := by
  cases n with
  | zero => omega
  | succ n => rw [pureF]; exact ⟨_, rfl⟩
theorem ent_facts {n : Nat} {l : List Fl} (h : OkF (n + 1) l) {nm : Pa} (hn : nm ∈ namesS l) : (entE (pureF n) l nm).name = nm ∧ nameB nm = true ∧ (entE (pureF n) l nm).d ≠ (0, 0) ∧ OkD (entE (pureF n) l nm).d := by
  obtain ⟨x, hx, e⟩ := names_mem.1 hn
  have hnb := h.name hx
  rw [e] at hnb
  unfold entE
  cases hf : findF l nm with
  | some D => exact ⟨rfl, hnb, digS_nz _, digS_ok _⟩
  | none =>
    obtain ⟨y, hy⟩ := List.exists_mem_of_ne_nil _ (deep_of hn hf)
    obtain ⟨o, ho⟩ := pureF_dig ((h.inside nm).pos hy) (insideS l nm)
    simp only
    rw [ho]
    exact ⟨trivial, hnb, digS_nz _, digS_ok _⟩
theorem dir_enc {n : Nat} {l : List Fl} (h : OkF (n + 1) l) (hs : SzF l) : (encodeS (treeO ((namesS l).map (entE (pureF n) l)))).2 = 0 ∧ OkO (treeO ((namesS l).map (entE (pureF n) l))) := by
  refine tree_enc (by rw [List.length_map]; exact Nat.le_trans (names_len l) hs.len) (fun e he => ?_) ?_
  · obtain ⟨nm, hn, rfl⟩ := List.mem_map.1 he
    obtain ⟨h1, h2, h3, h4⟩ := ent_facts h hn
    rw [h1]
    exact ⟨h2, h3, h4⟩
  · rw [List.map_map]
    have : (namesS l).map ((fun x => x.name) ∘ entE (pureF n) l) = (namesS l).map id := List.map_congr_left (fun nm hn => (ent_facts h hn).1)
    rw [this, List.map_id]
    exact names_asc l
theorem flat_congr {α β : Type} {f g : α → List β} : ∀ {l : List α}, (∀ x ∈ l, f x = g x) → l.flatMap f = l.flatMap g
  | [], _ => rfl
  | x :: l, h => by rw [List.flatMap_cons, List.flatMap_cons, h x (by simp), flat_congr (fun y hy => h y (by simp [hy]))]
/-- A list falls into the parts of its keys. -/
theorem perm_parts {α : Type} (key : α → Pa) : ∀ (ns : List Pa) (l : List α), ns.Nodup → (∀ x ∈ l, key x ∈ ns) → l.Perm (ns.flatMap fun nm => l.filter fun x => decide (key x = nm))
  | [], l, _, h => by
    cases l with
    | nil => exact List.Perm.refl _
    | cons x l => exact absurd (h x (by simp)) (by simp)
  | nm :: ns, l, hn, h => by
    rw [List.flatMap_cons]
    obtain ⟨g1, g2⟩ := List.nodup_cons.1 hn
    have ih := perm_parts key ns (l.filter fun x => !decide (key x = nm)) g2 (fun x hx => by
      simp only [List.mem_filter, Bool.not_eq_true', decide_eq_false_iff_not] at hx
      rcases List.mem_cons.1 (h x hx.1) with e | e
      · exact absurd e hx.2
      · exact e)
    have he : (ns.flatMap fun m => (l.filter fun x => !decide (key x = nm)).filter fun x => decide (key x = m)) = ns.flatMap fun m => l.filter fun x => decide (key x = m) := by
      refine flat_congr (fun m hm => ?_)
      rw [List.filter_filter]
      refine List.filter_congr (fun x _ => ?_)
      by_cases e : key x = m
      · have : ¬ key x = nm := fun e2 => g1 (by rw [← e2, e]; exact hm)
        simp [e]
        intro e3
        exact this (e.trans e3)
      · simp [e]
    rw [he] at ih
    exact (List.filter_append_perm (fun x => decide (key x = nm)) l).symm.trans (List.Perm.append_left _ ih)
theorem names_nodup (l : List Fl) : (namesS l).Nodup := List.Pairwise.imp (fun {a b} (h : ltS a b) (e : a = b) => ltS_irrefl b (by rw [e] at h; exact h)) (names_asc l)
def preF (pre : Pa) (x : Fl) : Fl := ⟨pre ++ x.path, x.data⟩
/-- A file that has the name of a directory is the only one there. -/
theorem OkF.flat {n : Nat} {l : List Fl} (h : OkF n l) {nm D : Pa} (hf : findF l nm = some D) (hs : (47 : UInt8) ∉ nm) : (l.filter fun x => decide (firstS x = nm)) = [⟨nm, D⟩] := by
  have hm := findF_some hf
  have hc : cutS nm = (nm, [], false) := by
    rcases cutS_law nm with ⟨_, h2, _⟩ | ⟨h1, h2, h3, _⟩
    · exact absurd (by rw [h2]; simp) hs
    · exact Prod.ext h2.symm (Prod.ext h3 h1)
  have hfst : firstS (⟨nm, D⟩ : Fl) = nm := by unfold firstS; rw [hc]
  have hall : ∀ x ∈ l, firstS x = nm → x = ⟨nm, D⟩ := fun x hx e => by
    cases hd : deepS x with
    | true =>
      have hp := (deep_path hd).1
      rw [e] at hp
      exact absurd hp (h.free _ hm _ hx _)
    | false =>
      have hp := (flat_path hd).1
      rw [e] at hp
      exact ascF_same h.asc hx hm hp
  have hasc : AscF (l.filter fun x => decide (firstS x = nm)) := List.Pairwise.filter _ h.asc
  refine ascF_ext hasc (List.pairwise_singleton _ _) (fun x => ?_)
  simp only [List.mem_filter, decide_eq_true_eq, List.mem_singleton]
  constructor
  · rintro ⟨hx, e⟩; exact hall x hx e
  · rintro rfl; exact ⟨hm, hfst⟩
theorem OkF.deep {l : List Fl} {nm : Pa} (hf : findF l nm = none) : (l.filter fun x => decide (firstS x = nm)) = l.filter fun x => deepS x && decide (firstS x = nm) := by
  refine List.filter_congr (fun x hx => ?_)
  cases hd : deepS x with
  | true => simp
  | false =>
    have h := findF_none hf x hx
    rw [(flat_path hd).1] at h
    simp [h]
theorem first_no {x : Fl} : (47 : UInt8) ∉ firstS x := by
  rcases cutS_law x.path with ⟨_, _, h3⟩ | ⟨_, h2, _, h4⟩
  · exact h3
  · unfold firstS; rw [← h2]; exact h4
/-- A visit of what was stored finds the files. -/
theorem visit_law : ∀ (n : Nat) {l : List Fl} {pre : Pa} {Q : List Itm}, 0 < n → OkF n l → SzF l → Asc Q → (∀ y ∈ (pureF n l).1, y ∈ Q) → (∀ x ∈ l, (pre ++ x.path).length ≤ 100) → (l = [] → pre = []) → ∃ V, Vis Q n (pureF n l).2 pre V ∧ V.Perm (l.map (preF pre))
  | 0, l, pre, Q, hn, _, _, _, _, _, _ => by omega
  | n + 1, l, pre, Q, _, ho, hs, ha, hQ, hl, he => by
    rw [pureF] at hQ ⊢
    obtain ⟨e1, e2⟩ := dir_enc ho hs
    have hget := get_item' ha (hQ _ (by simp)) e1 e2
    have key : ∀ ns : List Pa, (∀ nm ∈ ns, nm ∈ namesS l) → ∃ V, VisL (Vis Q n) Q (ns.map (entE (pureF n) l)) pre V ∧ V.Perm ((ns.flatMap fun nm => l.filter fun x => decide (firstS x = nm)).map (preF pre)) := by
      intro ns
      induction ns with
      | nil => intro _; exact ⟨[], rfl, List.Perm.refl _⟩
      | cons nm ns ih =>
        intro hns
        obtain ⟨V2, hv2, hp2⟩ := ih (fun m hm => hns m (by simp [hm]))
        have hnm := hns nm (by simp)
        obtain ⟨x0, hx0, hx0n⟩ := names_mem.1 hnm
        have hno : (47 : UInt8) ∉ nm := by rw [← hx0n]; exact first_no
        rw [List.map_cons, List.flatMap_cons, List.map_append]
        have hItm : ∀ y ∈ itmE (pureF n) l nm, y ∈ Q := fun y hy => hQ y (List.mem_append_left _ (List.mem_flatMap.2 ⟨nm, hnm, hy⟩))
        have hlen : (pre ++ nm).length ≤ 100 := by
          have h1 := hl x0 hx0
          have h2 : nm.length ≤ x0.path.length := by
            rw [← hx0n]
            rcases cutS_law x0.path with ⟨_, h3, _⟩ | ⟨_, h3, _⟩
            · have := congrArg List.length h3; rw [List.length_append] at this; unfold firstS; omega
            · unfold firstS; rw [← h3]; exact Nat.le_refl _
          rw [List.length_append] at h1 ⊢
          omega
        cases hf : findF l nm with
        | some D =>
          have hE : entE (pureF n) l nm = ⟨nm, false, digO (blobO D)⟩ := by unfold entE; rw [hf]
          have hI : itO (blobO D) ∈ Q := hItm _ (by unfold itmE; rw [hf]; simp)
          obtain ⟨b1, b2⟩ := blob_enc (D := D) (hs.dat _ (findF_some hf))
          rw [hE, ho.flat hf hno]
          refine ⟨[⟨pre ++ nm, D⟩] ++ V2, ⟨_, _, rfl, hlen, ?_, hv2⟩, List.Perm.append_left _ hp2⟩
          rw [if_neg (by simp)]
          exact ⟨D, get_item' ha hI b1 b2, rfl⟩
        | none =>
          have hE : entE (pureF n) l nm = ⟨nm, true, (pureF n (insideS l nm)).2⟩ := by unfold entE; rw [hf]
          obtain ⟨y0, hy0⟩ := List.exists_mem_of_ne_nil _ (deep_of hnm hf)
          have hin := ho.inside nm
          obtain ⟨V1, hv1, hp1⟩ := visit_law n (pre := pre ++ nm ++ [47]) (hin.pos hy0) hin (hs.inside nm) ha (fun y hy => hItm y (by unfold itmE; rw [hf]; exact hy)) (fun y hy => by
            obtain ⟨x, hx, d1, d2, rfl⟩ := inside_mem.1 hy
            have h1 := hl x hx
            rw [(deep_path d1).1, d2] at h1
            simpa using h1) (fun h => absurd h (deep_of hnm hf))
          rw [hE, OkF.deep hf]
          refine ⟨V1 ++ V2, ⟨_, _, rfl, hlen, ?_, hv2⟩, List.Perm.append ?_ hp2⟩
          · rw [if_pos rfl]; exact hv1
          · have hmm : (insideS l nm).map (preF (pre ++ nm ++ [47])) = (l.filter fun x => deepS x && decide (firstS x = nm)).map (preF pre) := by
              unfold insideS
              rw [List.map_map]
              refine List.map_congr_left (fun x hx => ?_)
              simp only [List.mem_filter, Bool.and_eq_true, decide_eq_true_eq] at hx
              obtain ⟨_, d1, d2⟩ := hx
              have hp := (deep_path d1).1
              unfold preF
              simp only [Function.comp]
              rw [hp, d2]
              unfold restS'
              simp
            rw [← hmm]
            exact hp1
    obtain ⟨V, hv, hp⟩ := key (namesS l) (fun nm h => h)
    refine ⟨V, ⟨_, hget, fun h => he ?_, hv⟩, hp.trans ?_⟩
    · have h2 : namesS l = [] := List.map_eq_nil_iff.1 h
      cases l with
      | nil => rfl
      | cons x l =>
        have hm : firstS x ∈ namesS (x :: l) := names_mem.2 ⟨x, by simp, rfl⟩
        rw [h2] at hm
        cases hm
    · exact ((perm_parts firstS (namesS l) l (names_nodup l) (fun x hx => names_mem.2 ⟨x, hx, rfl⟩)).map (preF pre)).symm
end Go.Proofs.YtceacjnhkcikgaaGreatDoor
