/- Short names for lemmas of the core library. -/
import Derived.Test.YtkedhdcnakhbgaaGreatProg
import Derived.Lib.Builder
import Derived.RangeFuncNested
import Derived.Lib.QuietBelow
import Derived.Deep.QuietTactic
import Derived.OwnWalk
import Derived.ProofKit
import Derived.Lib.Hide
import Derived.Below
import Derived.WalkKit
import Derived.Shelf.Abstract
set_option maxRecDepth 100000
set_option maxHeartbeats 16000000
open Go.Lib (hid)
namespace Go.Proofs.YtkedhdcnakhbgaaGreat
open Go Go.RowKit Go.Shelf
theorem nr {n:Nat}:n<=n:=Nat.le_refl n
theorem bf {B:Nat} (w:World):Below B w w:=Below.refl B w
theorem ba (w:World) (o:Obj):Below w.heap.size w (w.alloc o):=(Below.refl _ w).alloc (Nat.le_refl _) o
abbrev PM (w w':World):Prop:=Below w.heap.size w w'
abbrev Qd:=List (Int × Int)
abbrev Qb:=List UInt8
abbrev Qa:=Option Addr
theorem Qe {α:Sort _} (a:α):∃ x,x=a:=⟨a,rfl⟩
abbrev jg:=@Array.replicate_succ
abbrev je:=@Array.replicate_zero
abbrev rP:=@Int.le_refl
abbrev iG:=@Int.tdiv_eq_ediv_of_nonneg
abbrev aj:=@Int.toNat_natCast
abbrev P5:=@List.all_eq_true
abbrev ay:=@List.append_assoc
abbrev bG:=@List.append_nil
abbrev jT:=@List.append_toArray
abbrev iJ:=@List.concat_eq_append
abbrev bz:=@List.cons_append
abbrev eY:=@List.drop_drop
abbrev aN:=@List.drop_eq_getElem_cons
abbrev kR:=@List.drop_eq_nil_of_le
abbrev qL:=@List.drop_left
abbrev dV:=@List.drop_of_length_le
abbrev aU:=@List.eq_nil_of_length_eq_zero
abbrev iI:=@List.eq_nil_or_concat
abbrev vX:=@List.filter_append
abbrev kK:=@List.filter_cons
abbrev bg:=@List.flatMap_append
abbrev bR:=@List.flatMap_cons
abbrev fE:=@List.foldl_cons
abbrev sU:=@List.getElem_append_left
abbrev qK:=@List.getElem_append_right
abbrev bK:=@List.getElem_cons_succ
abbrev aS:=@List.getElem_cons_zero
abbrev eF:=@List.getElem_drop
abbrev ak:=@List.getElem_mem
abbrev aV:=@List.getElem_of_mem
abbrev af:=@List.length_append
abbrev az:=@List.length_cons
abbrev ah:=@List.length_drop
abbrev Qr:=@List.length_eq_zero_iff
abbrev fC:=@List.length_map
abbrev aK:=@List.length_nil
abbrev bJ:=@List.length_pos_iff
abbrev aL:=@List.length_set
abbrev aI:=@List.length_singleton
abbrev aA:=@List.length_take
abbrev dJ:=@List.map_append
abbrev rO:=@List.map_congr_left
abbrev eX:=@List.map_cons
abbrev aD:=@List.mem_append
abbrev pM:=@List.mem_cons_of_mem
abbrev P9:=@List.mem_cons_self
abbrev QJ:=@List.mem_filter
abbrev bV:=@List.mem_map
abbrev dK:=@List.mem_of_mem_take
abbrev aH:=@List.mem_singleton
abbrev aY:=@List.nil_append
abbrev vW:=@List.pairwise_cons
abbrev nV:=@List.push_toArray
abbrev dR:=@List.setIfInBounds_toArray
abbrev nU:=@List.size_toArray
abbrev fQ:=@List.suffix_refl
abbrev aQ:=@List.take_append_drop
abbrev rC:=@List.take_length
abbrev ag:=@List.take_of_length_le
abbrev jS:=@List.take_succ_cons
abbrev ai:=@List.take_succ_eq_append_getElem
abbrev aP:=@Nat.add_assoc
abbrev rM:=@Nat.add_mul
abbrev jR:=@Nat.add_sub_cancel_left
abbrev QI:=@Nat.add_zero
abbrev aC:=@Nat.le_trans
abbrev aO:=@Nat.lt_of_lt_of_le
abbrev gB:=@Nat.lt_or_ge
abbrev mM:=@Nat.min_eq_left
abbrev pK:=@Nat.mul_le_mul_right
abbrev sS:=@Nat.pow_succ
abbrev aZ:=@Nat.zero_add
abbrev Q6:=@Nat.zero_le
abbrev dG:=@Nat.zero_mul
theorem Zo {p : Prop} (h : p := by omega) : p := h
theorem Zs {p : Prop} (h : p := by simp) : p := h
theorem Zt {p : Prop} (h : p := by simp; omega) : p := h
theorem Zk {p : Prop} (h : p := by kernel_rfl) : p := h
theorem Zd {p : Prop} (h : p := by decide) : p := h
theorem Zl {p : Prop} (h : p := by decide +kernel) : p := h
theorem Zp {p : Prop} (h : p := by simp only; omega) : p := h
theorem Zm {p : Prop} (h : p := by unfold maxLen; omega) : p := h
theorem Zv {p : Prop} (h : p := by trivial) : p := h
theorem Zg {p : Prop} (h : p := by go_num) : p := h
theorem Zr {p : Prop} (h : p := by rfl) : p := h
theorem Za {p : Prop} (h : p := by assumption) : p := h
theorem Zu {a p : Prop} (h : a) (k : a → p := by intro h; simpa using h) : p := k h
theorem Zh {a p : Prop} (h : a) (k : a → p := by intro _; omega) : p := k h
theorem Zw {a p : Prop} (h : a) (k : a → p := by intro h; rw [h]; rfl) : p := k h
theorem Zx {a p : Prop} (h : a) (k : a → p := by intro h; rw [h]) : p := k h
theorem Zy {a p : Prop} (h : a) (k : a → p := by intro h; rw [h]; omega) : p := k h
theorem Zn {a p : Prop} (h : a) (k : a → p := by intro h; rw [h]; simp) : p := k h
theorem Zj {a p : Prop} (h : a) (k : a → p := by intro h; simp [h]) : p := k h
theorem Zc {a p : Prop} (h : a) (k : a → p := by intro h; rw [Lib.cell_of_heap h]; rfl) : p := k h
def Qg (p : Prop) : Prop := p
theorem Qg.out {p : Prop} (h : Qg p) : p := h
theorem Qg.o {p : Prop} (h : Qg p) : p := h
theorem Qf {p : Prop} (h : p) : Qg p := h
abbrev Qh := Calls Tryz.prog
theorem Yj {a b : Prop} (x : a) (y : b) : Qg a ∧ Qg b := ⟨Qf x, Qf y⟩
theorem Yk {a b c : Prop} (x : a) (y : b) (z : c) : Qg a ∧ Qg b ∧ Qg c := ⟨Qf x, Qf y, Qf z⟩
theorem Yl {a b c d : Prop} (x : a) (y : b) (z : c) (u : d) : Qg a ∧ Qg b ∧ Qg c ∧ Qg d := ⟨Qf x, Qf y, Qf z, Qf u⟩
theorem Ym {a b c d e : Prop} (x : a) (y : b) (z : c) (u : d) (v : e) : Qg a ∧ Qg b ∧ Qg c ∧ Qg d ∧ Qg e := ⟨Qf x, Qf y, Qf z, Qf u, Qf v⟩
theorem Yn {a b c d e f : Prop} (x : a) (y : b) (z : c) (u : d) (v : e) (w : f) : Qg a ∧ Qg b ∧ Qg c ∧ Qg d ∧ Qg e ∧ Qg f := ⟨Qf x, Qf y, Qf z, Qf u, Qf v, Qf w⟩
structure YA where
structure YB where
structure YC where
def Yi : YA := ⟨⟩
def Yu : YB := ⟨⟩
def Yb : YC := ⟨⟩
instance : CoeFun YA fun _ => Int → Value := ⟨fun _ => Value.int .i64⟩
instance : CoeFun YB fun _ => Int → Value := ⟨fun _ => Value.int .u64⟩
instance : CoeFun YC fun _ => Int → Value := ⟨fun _ => Value.int .u8⟩
instance : Coe (List UInt8) Value := ⟨fun l => .string ⟨l.toArray⟩⟩
instance : Coe Unit Value := ⟨fun _ => .slice none 0 0⟩
instance : Coe World Nat := ⟨fun w => w.heap.size⟩
instance : Coe Nat Addr := ⟨fun b => ⟨b, 0, none⟩⟩
theorem Yq {p : Prop} (h : p := by simp [intOf]; omega) : p := h
theorem Yr {p : Prop} (h : p := by simp [intOf] <;> omega) : p := h
structure YD where
def Ye : YD := ⟨⟩
instance : Coe YD Value := ⟨fun _ => .string ⟨#[]⟩⟩
abbrev XA := @Array.getElem?_eq_some_iff
abbrev XB := @bodyPost_ret
abbrev XC := @Prod.mk.injEq
abbrev XD := @Go.WideShapes.add_plain
abbrev XE := @World.ownsRow_nil
abbrev XF := @Bool.and_eq_true
abbrev XG := @List.mem_cons
abbrev XH := @List.getElem?_eq_getElem
abbrev XI := @decide_eq_true
abbrev XJ := @decide_eq_true_eq
abbrev XK := @beq_eq_false_iff_ne
abbrev XL := @decide_eq_false_iff_not
abbrev XM := @World.cell?_of_block
abbrev XN := @decide_eq_false
abbrev XO := @List.getElem?_eq_some_iff
abbrev XP := @Option.some.inj
abbrev XQ := @Array.getElem?_modify
abbrev XR := @info_parts
abbrev XS := @beq_iff_eq
abbrev XU := @World.size_alloc
abbrev XV := @callsIn_wide
abbrev XW := @World.ownsRow_made
abbrev XY := @Option.some.injEq
abbrev XZ := @World.grownBy_alloc
abbrev YE := @List.getElem?_append_right
abbrev YF := @Bool.eq_iff_iff
abbrev YG := @cell_regrown
abbrev YH := @wp_region_quiet_below
abbrev YI := @wpQuiet_nil
abbrev YJ := @Calls.regrown_of
abbrev YK := @Lib.frozen_of_heap
abbrev YL := @World.alloc_heap_new
abbrev YM := @World.putObj_heap_other
theorem XT {w u v : World} (h : Below w.heap.size w u) (g : Below u.heap.size u v) : Below w.heap.size w v := h.trans (g.mono h.size)
instance : Coe (List UInt8) ByteArray := ⟨fun l => ⟨l.toArray⟩⟩
abbrev Xz (V : Value) (w : World) : Ending → World → Prop := fun e w' => e = .returned V ∧ Below w.heap.size w w'
end Go.Proofs.YtkedhdcnakhbgaaGreat
