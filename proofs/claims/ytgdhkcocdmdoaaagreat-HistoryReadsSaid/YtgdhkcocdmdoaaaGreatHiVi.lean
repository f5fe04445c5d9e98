/- history.visit. -/
import Derived.Test.YtgdhkcocdmdoaaaGreatHiVs
namespace Go.Proofs.YtgdhkcocdmdoaaaGreat
open Go.RowKit Go.Shelf
set_option linter.unusedVariables false
attribute [local go_sem] Oper.semAt_some

def GotV (xs : List Itm) (heads : List (Int × Int)) (w : World) (b : Nat) (e : Ending) (w' : World) : Prop :=
  e = .returned (.int .i64 (visS xs heads []).2) ∧ w.grownBy w' (some b) ∧ ((visS xs heads []).2 = 0 → ∃ n A, n ≤ 1000000 ∧ VM xs w.heap.size b n (visS xs heads []).1 A w')

theorem wpListIn_append_run {F : Fence} {n : Nat} {P : Program} (w : World) {ops : Array Oper} {rest : List Oper} {o : Oper} {a : Act} {Q : Exit → Act → World → Prop} (hg : o.guard = none) (s x : Operand) (t tn : TypeId)
    (hop : o.op = Op.call { callee := Callee.builtin Builtin.append, args := #[s, x], argTypes := #[t, tn] }) (vs vx : Value) (hs : a.eval s = vs) (hx : a.eval x = vx)
    (v' : Value) (w' : World) (hr : (Builtin.append_ #[t, tn] o.type #[vs, vx]).run P w = .ok v' w') (h : wpListIn F n P ops Q rest (a.put o.dst v') w') : wpListIn F n P ops Q (o :: rest) a w := by
  refine wpListIn_plain hg fun K hK' => ?_
  unfold Oper.wpIn
  refine ⟨?_, ?_⟩
  · simp [Oper.about, hop, resolve, Target.leads, Sem.run_pure]
  · rw [Oper.semAt_plain F _ _ (by rw [hop]; intro c hc'; cases hc')]
    simp [execOp, hop, resolve, invoke, builtin, hs, hx, hr, Result.andThen]
    exact hK' _ _ h
theorem grown_none {w W : World} (hb : Below w.heap.size w W) (row : Option Nat) : w.grownBy W row := ⟨hb.os, hb.tape, hb.output, hb.size, fun k hk _ => hb.block k hk⟩
/-- The search between two rounds. -/
structure VI (xs : List Itm) (heads : List (Int × Int)) (w : World) (b ob : Nat) (met st : List (Int × Int)) (Ds : List Nat) (nm : Nat) (A : Int × Int → Option Addr × Nat) (v : Value) (k : Nat) (wr : World) : Prop where
  sv : SV xs w b nm ob met st.reverse Ds A v wr
  eq : visS xs heads [] = visS xs st met
  me : mea xs st met ≤ k
  nk : nm + k ≤ 600000
  ok : ∀ d ∈ st, OkD d
theorem VI.fin {xs : List Itm} {heads : List (Int × Int)} {w : World} {b ob : Nat} {met : List (Int × Int)} {Ds : List Nat} {nm : Nat} {A : Int × Int → Option Addr × Nat} {v : Value} {k : Nat} {wr W' : World} (h : VI xs heads w b ob met [] Ds nm A v k wr) (hs : SV xs w b nm ob met [] [] A v W') : GotV xs heads w b (.returned (.int .i64 0)) W' := by
  have e : visS xs heads [] = (met, 0) := by rw [h.eq, visS_nil]
  unfold GotV
  rw [e]
  exact ⟨rfl, hs.gr, fun _ => ⟨nm, A, by have := h.nk; omega, hs.vm⟩⟩

/-- The activation of a round: the loop's variable lies in a box. -/
def AxB (a : Act) (z : Int × Int × Int) (a' : Act) (W : World) : Prop := ∃ p, BK p #[.int .u64 z.2.1, .int .u64 z.2.2] 32 W ∧ a' = { tmps := ((a.tmps.setIfInBounds 56 (.int .i64 z.1)).setIfInBounds 57 (.agg #[.int .u64 z.2.1, .int .u64 z.2.2])).setIfInBounds 15 (.pointer (some ⟨p, 0, none⟩)), defers := [] }
theorem rf_box {g : Operand} {assign body : Code} {Q : Exit → Act → World → Prop} {a : Act} {w : World} {F : Fence} {n : Nat} {P : Program}
    (hro : F.round = none) (h1 : 1 ≤ n) {gf : Nat} {lb : Array Value} (hg : a.eval g = .func (.func gf) #[] lb) (hFg : F.fn gf) (eg : ∀ args w, (callFunc gf args).run P w = .ok (.enter gf args) w)
    {Kp : World → World → Prop} {S Sp : List (Int × Int × Int) → Prop} {N : Nat} (hseq : SeqStopsK F (n - 1) P gf lb (fun x : Int × Int × Int => #[.int .i64 x.1, .agg #[.int .u64 x.2.1, .int .u64 x.2.2]]) Kp S Sp N w)
    (hKt : ∀ {A B C : World}, Kp A B → Kp B C → Kp A C) (hKb : ∀ (W : World) (l : Nat) (o o' : Obj), w.heap.size ≤ l → W.heap[l]? = some o → o.isCells = false → o.isWalk = false → Kp W (W.putObj l o'))
    (I : List (Int × Int × Int) → World → Prop) (hI : OwnFrom w.heap.size I) (h0 : I [] w)
    (hassign : ∀ (l : Nat) (pre : List (Int × Int × Int)) (x : Int × Int × Int) (W : World) (K : Act → World → Prop), I pre W → (∀ a' W', KeepsFrom w.heap.size W W' → Kp W W' → I pre W' → AxB a x a' W' → K a' W') →
      assign.wpIn (F.inRound l) (n - 1 - 1) P (Exit.then K (fun _ _ _ => False)) { tmps := ((#[56, 57] : Array Tmp).zip (#[.int .i64 x.1, .agg #[.int .u64 x.2.1, .int .u64 x.2.2]])).foldl (fun t (p, v) => t.setIfInBounds p v) a.tmps, defers := [] } W)
    (hbody : ∀ (l : Nat) (pre : List (Int × Int × Int)) (x : Int × Int × Int) (a' : Act) (W : World), I pre W → AxB a x a' W → pre.length < N → body.wpIn (F.inRound l) (n - 1 - 1) P (ownPostG w.heap.size Kp I (fun _ _ _ => False) (pre ++ [x]) W) a' W)
    (hdone : ∀ (D : Nat) (xs : List (Int × Int × Int)) (W : World), w.heap.size ≤ D → S xs → I xs W → W.heap[D]? = some (.deferred (some [])) → Q .normal { a with defers := { target := .collected D, args := #[] } :: a.defers } W) :
    (Code.rangeFunc g #[56, 57] assign body).wpIn F n P Q a w :=
  wpIn_rangeFunc_ownH hro h1 hg hFg eg hseq hKt hKb (Below.refl _ _) (fun _ => rfl) I (fun _ _ _ => False) hI (fun _ _ _ _ _ h _ _ => h) h0 (AxB a)
    (fun z a' _ W W' row h hg hr => by
      obtain ⟨p, hb, e⟩ := h
      refine ⟨p, hb.grow hg (fun k hk hp => ?_), e⟩
      obtain ⟨_, o, ho, hc⟩ := hr k hk
      rw [hp, show W.heap[p]? = _ from hb] at ho
      cases ho
      cases hc)
    hassign (fun l pre x a' W _ _ hi hax hlen => hbody l pre x a' W hi hax hlen) hdone (fun D c pre W _ _ h _ => h.elim)
theorem grown_base {base b : Nat} {w W : World} (hg : w.grownBy W (some b)) (hb : base ≤ b) (hw : base ≤ w.heap.size) : Below base w W := ⟨hg.os, hg.tape, hg.output, hg.size, fun k hk => hg.block k (by omega) (by intro e; cases e; omega)⟩

set_option maxRecDepth 100000 in
set_option maxHeartbeats 8000000 in
theorem visit_any (base : Nat) (a : Option Addr) (xs : List Itm) (c : Nat) (ha : Option Addr) (heads : List (Int × Int)) (hc b : Nat) (w : World) (hpp : ∀ W, Below base w W → PoolIn W a xs c) (hA : Asc xs) (hr : Digs w.heap.size w ha heads) (hok : ∀ d ∈ heads, OkD d) (hm : MapV b 0 (fun _ => none) w) (hbb : base ≤ b) (hbw : base ≤ w.heap.size) (hxl : (xs.length : Int) ≤ 500) (hhl : (heads.length : Int) ≤ 10000) :
    Calls Tryz.prog 36 #[.map (some b), .slice a xs.length c, .slice ha heads.length hc] w (GotV xs heads w b) := by
  have HCO := Lib.hid (fun d1 d2 W (hW : Below base w W) => commit_any a xs c d1 d2 W (hpp W hW) hA)
  have HCL := Lib.hid (cloneD_any ha heads hc w hr (by omega))
  obtain ⟨n, hn⟩ : ∃ n, n = xs.length := ⟨_, rfl⟩
  rw [← hn] at HCO ⊢
  obtain ⟨hln, hhn⟩ : ∃ k, k = heads.length := ⟨_, rfl⟩
  rw [← hhn] at HCL hhl ⊢
  have HN := Lib.hid hn
  have HHN := Lib.hid hhn
  have HMP := Lib.hid hm
  have HOK := Lib.hid hok
  have HPP := Lib.hid hpp
  clear hn hhn hm hok hpp hr hA
  refine (callsIn_wide (n := 5)).1 ?_
  refine callsIn_of_wp_marks Tryz.func36 rfl trivial ?_ rfl
  simp only [Tryz.ntmps36, List.size_toArray, List.length_cons, List.length_nil, Nat.reduceAdd, Nat.reduceSub, Array.replicate_succ, Array.replicate_zero, List.push_toArray, List.append_toArray, List.nil_append, List.cons_append]
  gi_wp2_with (refine ⟨trivial, ?_⟩; gi_at_call 57; refine (callsIn_wide.2 HCL.out).mono ?_; rintro e W1 ⟨oa, oc, rfl, hown, hb1⟩)
  rw [← HHN.out] at hown ⊢
  obtain ⟨W2, hW2⟩ : ∃ W2, W2 = W1.alloc (.cells #[.slice oa hln oc] 24) := ⟨_, rfl⟩
  have ho2 : W2.ownsRow w.heap.size 32 2 (.slice oa heads.length oc) heads.length (dcells heads) := by rw [hW2, ← HHN.out]; exact hown.alloc _
  have HRV := Lib.hid (revD_any oa heads oc W2 ho2 (by rw [← HHN.out]; omega))
  rw [← HHN.out] at HRV
  have HK2 : Hid (BK W1.heap.size #[.slice oa hln oc] 24 W2) := Lib.hid (by rw [hW2]; exact BK.new _ _ _)
  have HB2 : Hid (Below w.heap.size w W2) := Lib.hid (by rw [hW2]; exact hb1.alloc hb1.size _)
  have HS0 : Hid (hln = heads.length ∧ (Value.slice oa hln oc).ownBlock ≠ some W1.heap.size ∧ w.heap.size ≤ W1.heap.size) := Lib.hid ⟨HHN.out, fun h => by have := (hown.lt _ h).2; omega, hb1.size⟩
  rw [hW2] at HRV
  have HW2 := Lib.hid hW2
  clear hown hb1 HCL ho2 hW2
  gi_wp2_with (refine ⟨trivial, ?_⟩; gi_at_call 58; refine (callsIn_wide.2 HRV.out).mono ?_; rintro e W3 ⟨rfl, hown3, hg3⟩)
  have HV0 : Hid (VI xs heads w b W1.heap.size [] heads [] 0 (fun _ => (none, 0)) (.slice oa hln oc) (mea xs heads []) W3) := Lib.hid (by
    rw [← HW2.out] at hg3
    have hs : SV xs w b 0 W1.heap.size [] heads.reverse [] (fun _ => (none, 0)) (.slice oa hln oc) W3 := by
      have hb3 : Below w.heap.size w W3 := HB2.out.grown hg3 HB2.out.size (fun j hj => by have := hown3.lt j hj; omega)
      have hm3 := HMP.out.below hb3
      refine ⟨grown_none hb3 _, HMP.out.lt, HK2.out.grow hg3 (fun k e hk => HS0.out.2.1 (by rw [e, hk])), HS0.out.2.2, by rw [List.length_reverse, ← HHN.out]; exact hown3, HS0.out.2.1, ⟨hm3.eq (fun d => by simp [FA]), by simp, by simp⟩, by simp, by simp, List.nodup_nil⟩
    exact ⟨hs, rfl, Nat.le_refl _, by unfold mea; have h1 := List.countP_le_length (p := fun x : Itm => !decide (x.d ∈ ([] : List (Int × Int)))) (l := xs); have h2 := HHN.out; omega, HOK.out⟩)
  have hF0 : mea xs heads [] ≤ 600000 := by have := HV0.out.nk; omega
  obtain ⟨ob, hob⟩ : ∃ ob, ob = W1.heap.size := ⟨_, rfl⟩
  rw [← hob] at HV0 ⊢
  clear hown3 hg3 HRV HK2 HB2 HS0 HW2 HMP HOK hob W2
  refine wpIn_loop_fuel (fun k a' wr => ∃ (met st : List (Int × Int)) (Ds : List Nat) (nm : Nat) (A : Int × Int → Option Addr × Nat) (v u8 u9 u10 u11 u12 u13 u20 u21 u22 u23 u24 u25 u26 u27 u28 u29 u30 u31 u32 u33 u34 u35 u36 u37 u38 u39 u40 u41 u42 u43 u44 u45 u46 u47 u48 u49 u50 u51 u52 u53 u54 u55 : Value), Hid (VI xs heads w b ob met st Ds nm A v k wr) ∧ a' = { tmps := #[.map (some b), .slice a n c, .slice ha hln hc, undef, undef, undef, .int .i64 0, .pointer (some ⟨ob, 0, none⟩), u8, u9, u10, u11, u12, u13, undef, undef, .slice ha hln hc, .slice oa hln oc, .slice oa hln oc, .tuple #[], u20, u21, u22, u23, u24, u25, u26, u27, u28, u29, u30, u31, u32, u33, u34, u35, u36, u37, u38, u39, u40, u41, u42, u43, u44, u45, u46, u47, u48, u49, u50, u51, u52, u53, u54, u55, undef, undef, undef, undef, undef, undef], defers := marks Ds }) ?round (mea xs heads []) _ _ ?start
  case start =>
    refine ⟨[], heads, [], 0, fun _ => (none, 0), .slice oa hln oc, ?_⟩
    repeat apply Exists.intro
    exact ⟨HV0, rfl⟩
  case round =>
    clear HV0 W3 W1
    rintro f a' wr ⟨met, st, Ds, nm, A, v, u8, u9, u10, u11, u12, u13, u20, u21, u22, u23, u24, u25, u26, u27, u28, u29, u30, u31, u32, u33, u34, u35, u36, u37, u38, u39, u40, u41, u42, u43, u44, u45, u46, u47, u48, u49, u50, u51, u52, u53, u54, u55, HV, rfl⟩
    have hob0 : wr.cell? ⟨ob, 0, none⟩ = some v := by rw [HV.out.sv.bx.cell]; rfl
    have hobf : wr.frozen? ⟨ob, 0, none⟩ = false := HV.out.sv.bx.frozen 0
    cases st with
    | nil =>
      obtain ⟨va, vc, rfl, hvc⟩ := ownsRow_sliceN HV.out.sv.ow
      simp only [List.reverse_nil, List.length_nil] at hob0 hvc
      gi_wp2
      refine leaves_marks (by simp) Ds _ HV.out.sv (fun W' hs => ?_)
      exact ⟨_, by simp [results, Tryz.results36, go_sem], HV.out.fin hs⟩
    | cons d st' =>
      obtain ⟨x, y⟩ := d
      have hrev : ((x, y) :: st').reverse = st'.reverse ++ [(x, y)] := List.reverse_cons
      obtain ⟨g, vc, hvv, hvc, q0, q1, hpop⟩ := own_pop (by rw [← hrev]; exact HV.out.sv.ow)
      have hokd := HV.out.ok (x, y) (by simp)
      have HOK' : Hid (∀ d ∈ st', OkD d) := Lib.hid (fun d hd => HV.out.ok d (by simp [hd]))
      have hme := HV.out.me
      have hnk := HV.out.nk
      have hm1 := mea_pop' xs st' met (x, y)
      obtain ⟨gk, rfl⟩ : ∃ g, f = g + 1 := ⟨f - 1, by omega⟩
      have hml : st'.reverse.length ≤ 600000 := by
        rw [List.length_reverse]
        have : st'.length ≤ mea xs st' met := by unfold mea; omega
        omega
      have HEQ := Lib.hid HV.out.eq
      have HSV := Lib.hid HV.out.sv
      clear HV
      rw [hrev] at HSV
      subst hvv
      obtain ⟨m, hm⟩ : ∃ m, m = st'.reverse.length := ⟨_, rfl⟩
      rw [← hm] at hvc q0 q1 hpop hml HSV hob0
      have hpopr := fun W => dpop_run g (m + 1) vc m (by omega) (by omega) W
      have hsub : ((m : Int) + 1 - 1) = (m : Int) := by omega
      have hobw := HSV.out.bx.lt
      have hww := HSV.out.gr.size
      have hne : ob ≠ wr.heap.size := by omega
      have hne' : wr.heap.size ≠ ob := by omega
      obtain ⟨u1, hu1⟩ : ∃ u1, u1 = (wr.setCell ⟨ob, 0, none⟩ (.slice (some ⟨g, 0, none⟩) m vc)).alloc (.cells #[.int .u64 x, .int .u64 y] 32) := ⟨_, rfl⟩
      have hss : (wr.setCell ⟨ob, 0, none⟩ (.slice (some ⟨g, 0, none⟩) m vc)).heap.size = wr.heap.size := by simp [World.setCell]
      have HS1 : Hid (SV xs w b nm ob met st'.reverse Ds A (.slice (some ⟨g, 0, none⟩) m vc) u1) := Lib.hid (by rw [hu1]; exact (HSV.out.set (v' := .slice (some ⟨g, 0, none⟩) m vc) (by rw [← hm]; exact hpop) rfl).alloc _)
      have HK1 : Hid (BK wr.heap.size #[.int .u64 x, .int .u64 y] 32 u1) := Lib.hid (by rw [hu1, ← hss]; exact BK.new _ _ _)
      have hlk := HS1.out.vm.mp.lookOk Tryz.underlying63 (zeroSl u1) hokd
      have c0 : u1.cell? ⟨wr.heap.size, 0, none⟩ = some (.int .u64 x) := by rw [HK1.out.cell]; rfl
      have c1 : u1.cell? ⟨wr.heap.size, 1, none⟩ = some (.int .u64 y) := by rw [HK1.out.cell]; rfl
      have hoba := fun o => cell_a1 hob0 o
      have hobfa := fun o => (HSV.out.alloc o).bx.frozen 0
      rw [hu1] at hlk c0 c1
      have HU1 := Lib.hid hu1
      have HM := Lib.hid hm
      clear hu1 hpop hrev hm
      by_cases hmet : (x, y) ∈ met
      · simp only [FA, if_pos hmet, Option.getD_some, Option.isSome_some] at hlk
        have HN' : Hid (VI xs heads w b ob met st' Ds nm A (.slice (some ⟨g, 0, none⟩) m vc) gk u1) := Lib.hid ⟨HS1.out, by rw [HEQ.out, visS_cons, if_pos hmet], by omega, by omega, HOK'.out⟩
        rw [HU1.out] at HN'
        clear HS1 HK1 hmet HSV HU1
        gi_wp2
        refine ⟨gk, rfl, met, st', Ds, nm, A, .slice (some ⟨g, 0, none⟩) m vc, ?_⟩
        repeat apply Exists.intro
        exact ⟨HN', rfl⟩
      · simp only [FA, if_neg hmet, Option.getD_none, Option.isSome_none] at hlk
        have HC1 := Lib.hid (HCO.out x y u1 (grown_base HS1.out.gr hbb hbw))
        obtain ⟨OE, hOE⟩ : ∃ OE, OE = commitS xs (x, y) := ⟨_, rfl⟩
        rw [← hOE] at HC1
        rw [HU1.out] at HC1
        obtain ⟨⟨kind, data, ents, ⟨t1, t2⟩, pars, author, time, msg⟩, er⟩ := OE
        have HCE := Lib.hid hOE.symm
        simp only at HC1
        have HMT := Lib.hid hmet
        have hu1s : u1.heap.size = wr.heap.size + 1 := by rw [HU1.out]; simp [World.setCell]
        clear hOE hmet
        gi_wp2
        refine ⟨trivial, ?_⟩
        refine (callsIn_wide.2 HC1.out).mono ?_
        rintro e u2 ⟨ea, ec, pa, pc, rfl, hobb, hb⟩
        rw [← HU1.out] at hobb hb
        have hgl : ∀ k, (Value.slice (some ⟨g, 0, none⟩) m vc).ownBlock = some k → k < u1.heap.size := fun k e => (HS1.out.ow.lt k e).2
        clear HC1 hlk c0 c1 hoba hobfa HU1 HSV q0 q1 hpopr
        simp only [Ob.val]
        obtain ⟨ne, hnee⟩ : ∃ ne, ne = ents.length := ⟨_, rfl⟩
        obtain ⟨np, hnp⟩ : ∃ np, np = pars.length := ⟨_, rfl⟩
        obtain ⟨u3, hu3⟩ : ∃ u3, u3 = u2.alloc (.cells (Ob.arr ⟨kind, data, ents, (t1, t2), pars, author, time, msg⟩ ea ec pa pc) 36) := ⟨_, rfl⟩
        simp only [Ob.arr] at hu3
        rw [← hnee, ← hnp] at hu3 ⊢
        have HNP := Lib.hid hnp
        have HS3 : Hid (SV xs w b nm ob met st'.reverse Ds A (.slice (some ⟨g, 0, none⟩) m vc) u3) := Lib.hid (by rw [hu3]; exact (HS1.out.below hb).alloc _)
        have HKO : Hid (BK u2.heap.size #[.int .i64 kind, .string ⟨data.toArray⟩, .slice ea ne ec, .int .u64 t1, .int .u64 t2, .slice pa np pc, .string ⟨author.toArray⟩, .int .i64 time, .string ⟨msg.toArray⟩] 36 u3) := Lib.hid (by rw [hu3]; exact BK.new _ _ _)
        have HK2 : Hid (BK wr.heap.size #[.int .u64 x, .int .u64 y] 32 u2) := Lib.hid (HK1.out.below hb)
        have HPO : Hid (u3.ownsRow u1.heap.size 32 2 (.slice pa pars.length pc) pars.length (dcells pars)) := Lib.hid (by rw [hu3]; exact hobb.po.alloc _)
        have hz3 : u3.heap.size = u2.heap.size + 1 := by rw [hu3]; simp
        have hz2 := hb.size
        have k0 : u2.cell? ⟨wr.heap.size, 0, none⟩ = some (.int .u64 x) := by rw [HK2.out.cell]; rfl
        have k1 : u2.cell? ⟨wr.heap.size, 1, none⟩ = some (.int .u64 y) := by rw [HK2.out.cell]; rfl
        have k0a := fun o => cell_a1 k0 o
        have k1a := fun o => cell_a1 k1 o
        clear hnee hnp hobb hb HS1 HK1 HK2
        by_cases he : er = 0
        · subst he
          have hpl := pars_le (xs := xs) (d := (x, y)) (by rw [HCE.out])
          have HPK := Lib.hid (pars_okD (xs := xs) (d := (x, y)) (by rw [HCE.out]))
          obtain ⟨u4, hrun, hs4, hg4, hz4⟩ := HS3.out.put hokd (by omega) (pa := pa) (pc := pc) (by rw [HCE.out]; exact ownsRow_digs HPO.out) (by rw [HCE.out]; exact own_cap HPO.out) (fun ad e => by
            have h1 := HPO.out.lt ad.block (by rw [e]; rfl)
            refine ⟨by have := HS3.out.gr.size; have := HS3.out.lo; omega, h1.2, by omega, fun e2 => ?_⟩
            have := hgl _ e2
            omega)
          have HEN : Hid (visS xs heads [] = visS xs (pars ++ st') (met ++ [(x, y)]) ∧ mea xs (pars ++ st') (met ++ [(x, y)]) ≤ gk) := Lib.hid ⟨by rw [HEQ.out, visS_cons, if_neg HMT.out, if_neg (by rw [HCE.out]; simp), HCE.out], by
            have h1 := mea_hit' (st := st') HMT.out (by rw [HCE.out])
            rw [HCE.out] at h1
            simp only at h1
            omega⟩
          rw [HCE.out] at hrun hpl HPK
          simp only at hrun hpl HPK
          rw [← HNP.out] at hpl
          rw [← HNP.out, hu3] at hrun
          have HS4 := Lib.hid hs4
          have HKO4 : Hid (BK u2.heap.size #[.int .i64 kind, .string ⟨data.toArray⟩, .slice ea ne ec, .int .u64 t1, .int .u64 t2, .slice pa np pc, .string ⟨author.toArray⟩, .int .i64 time, .string ⟨msg.toArray⟩] 36 u4) := Lib.hid (HKO.out.grow1 hg4 (by have := HS3.out.lb; have := HS3.out.gr.size; omega))
          have HPD4 : Hid (Digs u4.heap.size u4 pa pars) := Lib.hid ((ownsRow_digs HPO.out).kept hg4 (fun _ ad e hk => by
            have h1 := HPO.out.lt ad.block (by rw [e]; rfl)
            have h2 := HS3.out.lb
            have := Option.some.inj hk
            have := HS3.out.gr.size
            omega))
          have o5 : u4.cell? ⟨u2.heap.size, 5, none⟩ = some (.slice pa np pc) := by rw [HKO4.out.cell]; rfl
          have HZ := Lib.hid (And.intro hz3 hz4)
          have hobz := HS4.out.bx.lt
          clear hs4 hg4 hu3 HS3 HKO HPO HEQ hz3 hz4
          gi_wp2
          refine ⟨trivial, ?_⟩
          refine (callsIn_wide.2 (back_any pa np pc u4)).mono ?_
          rintro e u5 ⟨rfl, hu5⟩
          have HS5 : Hid (SV xs w b (nm + 1) ob (met ++ [(x, y)]) st'.reverse Ds (fun d => if d = (x, y) then (pa, pc) else A d) (.slice (some ⟨g, 0, none⟩) m vc) u5) := Lib.hid (by rw [← hu5]; exact HS4.out.alloc _)
          have HB5 : Hid (BK u4.heap.size #[.slice pa np pc] 24 u5) := Lib.hid (by rw [← hu5]; exact BK.new _ _ _)
          have HD5 : Hid (Digs u5.heap.size u5 pa pars) := Lib.hid (by rw [← hu5]; exact HPD4.out.ahead ((Below.refl _ _).alloc (Nat.le_refl _) _))
          have hz5 : u5.heap.size = u4.heap.size + 1 := by rw [← hu5]; simp
          obtain ⟨Bs, hBs⟩ : ∃ Bs, Bs = u4.heap.size := ⟨_, rfl⟩
          have hobl := HS4.out.bx.lt
          rw [← hBs] at HB5 hz5 hobl ⊢
          have HZ5 := Lib.hid hz5
          clear hBs hz5
          clear HS4 HPD4 HKO4 o5 hrun hu5 k0 k1 k0a k1a
          gi_wp2
          have hz5 := HZ5.out
          obtain ⟨A', hA'⟩ : ∃ A' : Int × Int → Option Addr × Nat, A' = fun d => if d = (x, y) then (pa, pc) else A d := ⟨_, rfl⟩
          rw [← hA'] at HS5
          have HA' : Hid ((A' (x, y)).1 = pa) := Lib.hid (by rw [hA']; simp)
          clear hA'
          have hmx : (x, y) ∈ met ++ [(x, y)] := by simp
          have hpb5 : ∀ ad, pa = some ad → ad.block < u5.heap.size := fun ad e => (HS5.out.vm.pb (x, y) hmx ad (by rw [HA'.out, e])).2.1
          have hrl : st'.reverse.length ≤ 600000 := by rw [← HM.out]; exact hml
          refine rf_box rfl (by omega) (gf := 83) (lb := #[.pointer (some ⟨Bs, 0, none⟩)]) rfl trivial (enters_of Tryz.func83 (by kernel_rfl) rfl)
            (back_stops Fence.wide (5 - 1) trivial rfl (by omega) Bs pa pc pars (by rw [← HNP.out]; omega) u5 (by rw [← HNP.out]; exact HB5.out) HD5.out) (fun h k => h.trans k)
            (fun W l o o' hl ho hc hw => ⟨by simp, World.putObj_heap_other (by omega), fun ad e => World.putObj_heap_other (by have := hpb5 ad e; omega)⟩)
            (fun pre W => ∃ v, SV xs w b (nm + 1) ob (met ++ [(x, y)]) (st'.reverse ++ pre.map (fun z => z.2)) Ds A' v W ∧ BK Bs #[.slice pa np pc] 24 W)
            ?hI ?h0 ?assign ?body ?done
          case hI =>
            rintro s W W' row ⟨v, h1, h2⟩ hg hr
            refine ⟨v, h1.kept hg (fun k e => ⟨?_, fun hD => ?_, (hr k e).2⟩), h2.grow hg (fun k e hk => by have := (hr k e).1; omega)⟩
            · have := (hr k e).1
              have := HS5.out.gr.size
              omega
            · have := (hr k e).1
              have := (Array.getElem?_eq_some_iff.1 (HS5.out.mks k hD).2).1
              omega
          case h0 => exact ⟨_, by simpa using HS5.out, HB5.out⟩
          case assign =>
            rintro l pre ⟨z1, z2, z3⟩ W K ⟨v, h1, h2⟩ hK
            gi_wp2
            refine hK _ _ ((KeepsOthers.alloc _ _).from _) ⟨by simp, Below.heap_alloc _ _ _ h2.lt, fun ad e => Below.heap_alloc _ _ _ ?_⟩ ⟨v, h1.alloc _, h2.alloc _⟩ ⟨W.heap.size, BK.new _ _ _, rfl⟩
            exact (h1.vm.pb (x, y) hmx ad (by rw [HA'.out, e])).2.1
          case body =>
            rintro l pre ⟨z1, z2, z3⟩ a' W ⟨v, h1, h2⟩ ⟨p, hbp, rfl⟩ hlen
            obtain ⟨va, vc', rfl, hvc'⟩ := ownsRow_sliceN h1.ow
            obtain ⟨v', W2, hrun, hown', hg', hat'⟩ := append_one h1.ow z2 z3 (by rw [List.length_append, List.length_map]; have := HNP.out; omega) h1.gr.size
            have HS2 := Lib.hid ((h1.alloc (.cells #[.int .u64 z2, .int .u64 z3] 32)).push hown' hg' (by simpa using hat'))
            have hown2 := hown'
            obtain ⟨a2, c2, rfl, _⟩ := ownsRow_sliceN hown2
            have hob2 : BK ob #[.slice va (st'.reverse ++ pre.map (fun z => z.2)).length vc'] 24 W2 := (h1.alloc _).bx.grow hg' (fun k e hk => h1.ne (by rw [e, hk]))
            have hnb := Boxed.not_row h2 (by decide) h1.ow
            have hBs2 : BK Bs #[.slice pa np pc] 24 W2 := (h2.alloc _).grow hg' (fun k e hk => hnb (by rw [← hk, e]))
            have HFN : Hid (ownPostG u5.heap.size (Kp Bs pa) (fun pre W => ∃ v, SV xs w b (nm + 1) ob (met ++ [(x, y)]) (st'.reverse ++ pre.map (fun z => z.2)) Ds A' v W ∧ BK Bs #[.slice pa np pc] 24 W) (fun _ _ _ => False) (pre ++ [(z1, z2, z3)]) W .normal { tmps := #[], defers := [] } (W2.setCell ⟨ob, 0, none⟩ (.slice a2 ((st'.reverse ++ pre.map (fun z => z.2)) ++ [(z2, z3)]).length c2))) := Lib.hid (by
              have hz : W.heap.size ≤ W2.heap.size := by have := hg'.size; simp at this; omega
              have hset : ∀ v, (W2.setCell ⟨ob, 0, none⟩ v).heap.size = W2.heap.size := fun v => by simp [World.setCell]
              have hstep : ∀ k, k < W.heap.size → k ≠ ob → (Value.slice va (st'.reverse ++ pre.map (fun z => z.2)).length vc').ownBlock ≠ some k → ∀ v, (W2.setCell ⟨ob, 0, none⟩ v).heap[k]? = W.heap[k]? := fun k hk h3 h4 v =>
                (Below.heap_setCell _ _ _ _ h3).trans ((hg'.block k (by simp; omega) (fun e => h4 e.symm)).trans (Below.heap_alloc _ _ _ hk))
              refine ⟨⟨by rw [hset]; exact hz, fun k o _ hk ho => ?_⟩, ⟨by rw [hset]; exact hz, ?_, fun ad e => ?_⟩, _, by rw [List.map_append, ← List.append_assoc]; exact HS2.out, hBs2.other (by omega) _ _⟩
              · rw [hstep k (Array.getElem?_eq_some_iff.1 hk).1 (fun e => ?_) (fun e => ?_), hk]
                · rw [e, show W.heap[ob]? = _ from h1.bx] at hk
                  cases hk
                  cases ho
                · have := own_cells h1.ow e hk
                  rw [ho] at this
                  cases this
              · exact hstep Bs h2.lt (by omega) (fun e => hnb e.symm) _
              · have h5 := h1.pb (x, y) hmx ad (by rw [HA'.out, e])
                exact hstep ad.block (h1.vm.pb (x, y) hmx ad (by rw [HA'.out, e])).2.1 h5.1 h5.2 _)
            have e0 : W.cell? ⟨ob, 0, none⟩ = some (.slice va (st'.reverse ++ pre.map (fun z => z.2)).length vc') := by rw [h1.bx.cell]; rfl
            have e1 : W.cell? ⟨p, 0, none⟩ = some (.int .u64 z2) := by rw [hbp.cell]; rfl
            have e2 : W.cell? ⟨p, 1, none⟩ = some (.int .u64 z3) := by rw [hbp.cell]; rfl
            have e3 : W2.cell? ⟨ob, 0, none⟩ = some (.slice va (st'.reverse ++ pre.map (fun z => z.2)).length vc') := by rw [hob2.cell]; rfl
            have e4 : W2.frozen? ⟨ob, 0, none⟩ = false := hob2.frozen 0
            have HRUN := Lib.hid hrun
            clear hrun hown' hg' hat' hown2 hob2 hnb hBs2 HS2 h1 h2 hbp
            simp only [List.setIfInBounds_toArray, List.set_cons_succ, List.set_cons_zero]
            generalize ((st'.reverse ++ pre.map (fun z => z.2)) ++ [(z2, z3)]).length = L2 at HRUN HFN
            generalize (st'.reverse ++ pre.map (fun z => z.2)).length = L1 at HRUN e0 e3 hvc'
            gi_wp2_with (gi_at_builtin; refine wpListIn_append_run _ rfl _ _ _ _ rfl _ _ rfl rfl _ _ HRUN.out ?_)
            exact HFN.out
          case done =>
            rintro D xs' W hD hS ⟨v, h1, h2⟩ hdef
            have HN' : Hid (VI xs heads w b ob (met ++ [(x, y)]) (pars ++ st') (D :: Ds) (nm + 1) A' v gk W) := Lib.hid (by
              refine ⟨?_, HEN.out.1, HEN.out.2, by omega, fun d hd => ?_⟩
              · have h3 := h1.mark (D := D) (by have := HS5.out.gr.size; omega) hdef (fun hDm => by have := (Array.getElem?_eq_some_iff.1 (HS5.out.mks D hDm).2).1; omega)
                rw [hS] at h3
                rw [List.reverse_append]
                exact h3
              · rcases List.mem_append.1 hd with h3 | h3
                · exact HPK.out d h3
                · exact HOK'.out d h3)
            clear h1 h2 HS5 HB5 HD5 HEN HPK HOK'
            gi_wp2
            refine ⟨gk, rfl, met ++ [(x, y)], pars ++ st', D :: Ds, nm + 1, A', v, ?_⟩
            repeat apply Exists.intro
            exact ⟨HN', rfl⟩
        · have hee : (er != 0) = true := by simpa using he
          have HX : Hid (visS xs heads [] = ([], er)) := Lib.hid (by rw [HEQ.out, visS_cons, if_neg HMT.out, HCE.out, if_pos he])
          rw [hu3] at HS3
          clear hu3 he HKO HPO HEQ
          gi_wp2
          refine leaves_marks (by simp) Ds _ HS3.out (fun W' hs => ?_)
          refine ⟨.int .i64 er, by simp [results, Tryz.results36, go_sem], ?_⟩
          unfold GotV
          rw [HX.out]
          exact ⟨rfl, hs.gr, fun h => absurd h (by simpa using hee)⟩
end Go.Proofs.YtgdhkcocdmdoaaaGreat
