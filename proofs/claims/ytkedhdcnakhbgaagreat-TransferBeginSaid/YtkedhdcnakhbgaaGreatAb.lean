/- Short names for lemmas of the core library. -/
import Derived.Test.YtkedhdcnakhbgaaGreatProg
import Derived.ProofKit
import Derived.Lib.Hide
import Derived.Below
import Derived.WalkKit
import Derived.Shelf.Abstract
set_option maxRecDepth 100000
set_option maxHeartbeats 16000000
open Go.Lib (hid)
namespace Go.Proofs.YtkedhdcnakhbgaaGreat
open Go Go.RowKit Go.Shelf
theorem nr {n:Nat}:n<=n:=Nat.le_refl n
theorem bf {B:Nat} (w:World):Below B w w:=Below.refl B w
theorem ba (w:World) (o:Obj):Below w.heap.size w (w.alloc o):=(Below.refl _ w).alloc (Nat.le_refl _) o
abbrev Qd:=List (Int × Int)
abbrev Qb:=List UInt8
abbrev Qa:=Option Addr
theorem Qe {α:Sort _} (a:α):∃ x,x=a:=⟨a,rfl⟩
abbrev PM (w w':World):Prop:=Below w.heap.size w w'
abbrev jg:=@Array.replicate_succ
abbrev je:=@Array.replicate_zero
abbrev rP:=@Int.le_refl
abbrev iG:=@Int.tdiv_eq_ediv_of_nonneg
abbrev aj:=@Int.toNat_natCast
abbrev ay:=@List.append_assoc
abbrev bG:=@List.append_nil
abbrev jT:=@List.append_toArray
abbrev iJ:=@List.concat_eq_append
abbrev bz:=@List.cons_append
abbrev eY:=@List.drop_drop
abbrev aN:=@List.drop_eq_getElem_cons
abbrev kR:=@List.drop_eq_nil_of_le
abbrev qL:=@List.drop_left
abbrev dV:=@List.drop_of_length_le
abbrev aU:=@List.eq_nil_of_length_eq_zero
abbrev iI:=@List.eq_nil_or_concat
abbrev vX:=@List.filter_append
abbrev kK:=@List.filter_cons
abbrev bg:=@List.flatMap_append
abbrev bR:=@List.flatMap_cons
abbrev fE:=@List.foldl_cons
abbrev sU:=@List.getElem_append_left
abbrev qK:=@List.getElem_append_right
abbrev bK:=@List.getElem_cons_succ
abbrev aS:=@List.getElem_cons_zero
abbrev eF:=@List.getElem_drop
abbrev ak:=@List.getElem_mem
abbrev aV:=@List.getElem_of_mem
abbrev af:=@List.length_append
abbrev az:=@List.length_cons
abbrev ah:=@List.length_drop
abbrev fC:=@List.length_map
abbrev aK:=@List.length_nil
abbrev bJ:=@List.length_pos_iff
abbrev aL:=@List.length_set
abbrev aI:=@List.length_singleton
abbrev aA:=@List.length_take
abbrev dJ:=@List.map_append
abbrev rO:=@List.map_congr_left
abbrev eX:=@List.map_cons
abbrev aD:=@List.mem_append
abbrev pM:=@List.mem_cons_of_mem
abbrev bV:=@List.mem_map
abbrev dK:=@List.mem_of_mem_take
abbrev aH:=@List.mem_singleton
abbrev aY:=@List.nil_append
abbrev vW:=@List.pairwise_cons
abbrev nV:=@List.push_toArray
abbrev dR:=@List.setIfInBounds_toArray
abbrev nU:=@List.size_toArray
abbrev fQ:=@List.suffix_refl
abbrev aQ:=@List.take_append_drop
abbrev rC:=@List.take_length
abbrev ag:=@List.take_of_length_le
abbrev jS:=@List.take_succ_cons
abbrev ai:=@List.take_succ_eq_append_getElem
abbrev aP:=@Nat.add_assoc
abbrev rM:=@Nat.add_mul
abbrev jR:=@Nat.add_sub_cancel_left
abbrev aC:=@Nat.le_trans
abbrev aO:=@Nat.lt_of_lt_of_le
abbrev gB:=@Nat.lt_or_ge
abbrev mM:=@Nat.min_eq_left
abbrev pK:=@Nat.mul_le_mul_right
abbrev sS:=@Nat.pow_succ
abbrev aZ:=@Nat.zero_add
abbrev dG:=@Nat.zero_mul
def Qg (p : Prop) : Prop := p
theorem Qg.out {p : Prop} (h : Qg p) : p := h
theorem Qg.o {p : Prop} (h : Qg p) : p := h
theorem Qf {p : Prop} (h : p) : Qg p := h
abbrev Qh := Calls Tryz.prog
end Go.Proofs.YtkedhdcnakhbgaaGreat
