/- Packs on paper: a pack of which one byte is changed. -/
import Derived.Test.YtijkieiihpiljaaGreatP8
import Derived.Laws.BitsAllLaws
import Derived.Test.YtijkieiihpiljaaGreatK5
set_option maxRecDepth 100000
set_option maxHeartbeats 16000000
open Go.Lib (hid)
namespace Go.Proofs.YtijkieiihpiljaaGreat
open Go.RowKit
set_option linter.unusedVariables false
theorem dig1_range (h:Int) (c:UInt8):0<=dig1 h c/\dig1 h c < 18446744073709551616:=by
 unfold dig1
 rw [IntKind.wrap_u64]
 exact ⟨Int.emod_nonneg _ (by decide),Int.emod_lt_of_pos _ (by decide)⟩
theorem xor_nat {h:Int} {c:UInt8} (h0:0<=h) (h1:h < 18446744073709551616):bits .xor .u64 h (IntKind.u64.wrap (c.toNat:Int))=((h.toNat ^^^ c.toNat:Nat):Int):=by
 have:=c.toNat_lt
 have hc:IntKind.u64.wrap (c.toNat:Int)=(c.toNat:Int):=by
  rw [IntKind.wrap_u64]
  exact Int.emod_eq_of_lt (by omega) (by omega)
 rw [hc,u64_xor h _ h0 h1 (by omega) (by omega),Int.toNat_natCast]
theorem mul_back {x:Int} (h0:0<=x) (h1:x < 18446744073709551616):(x * 1099511628211) % 18446744073709551616 * 14886173955864302971 % 18446744073709551616=x:=by
 have e:x * 1099511628211 * 14886173955864302971=x + 18446744073709551616 * (x * 887285111055):=by omega
 rw [Int.mul_emod,Int.emod_emod,<-Int.mul_emod,e,Int.add_mul_emod_self_left]
 exact Int.emod_eq_of_lt h0 h1
theorem mul_inj {a b:Int} (h0:0<=a) (h1:a < 18446744073709551616) (g0:0<=b) (g1:b < 18446744073709551616) (h:IntKind.u64.wrap (a * 1099511628211)=IntKind.u64.wrap (b * 1099511628211)):a=b:=by
 rw [IntKind.wrap_u64,IntKind.wrap_u64] at h
 rw [<-mul_back h0 h1,h,mul_back g0 g1]
theorem xor_right {a b c:Nat} (e:a ^^^ c=b ^^^ c):a=b:=by
 have h:=congrArg (fun x=>x ^^^ c) e
 simpa [Nat.xor_assoc] using h
theorem dig1_h {h h':Int} {c:UInt8} (h0:0<=h) (h1:h < 18446744073709551616) (g0:0<=h') (g1:h' < 18446744073709551616) (e:dig1 h c=dig1 h' c):h=h':=by
 unfold dig1 at e
 rw [xor_nat h0 h1,xor_nat g0 g1] at e
 have hc:=c.toNat_lt
 have b1:h.toNat ^^^ c.toNat < 2 ^ 64:=Nat.xor_lt_two_pow (by omega) (by omega)
 have b2:h'.toNat ^^^ c.toNat < 2 ^ 64:=Nat.xor_lt_two_pow (by omega) (by omega)
 have e2:=mul_inj (by omega) (by omega) (by omega) (by omega) e
 have e3:h.toNat ^^^ c.toNat=h'.toNat ^^^ c.toNat:=by omega
 have e4:h.toNat=h'.toNat:=xor_right e3
 omega
theorem dig1_c {h:Int} {c c':UInt8} (h0:0<=h) (h1:h < 18446744073709551616) (e:dig1 h c=dig1 h c'):c=c':=by
 unfold dig1 at e
 rw [xor_nat h0 h1,xor_nat h0 h1] at e
 have hc:=c.toNat_lt
 have hc':=c'.toNat_lt
 have b1:h.toNat ^^^ c.toNat < 2 ^ 64:=Nat.xor_lt_two_pow (by omega) (by omega)
 have b2:h.toNat ^^^ c'.toNat < 2 ^ 64:=Nat.xor_lt_two_pow (by omega) (by omega)
 have e2:=mul_inj (by omega) (by omega) (by omega) (by omega) e
 have e3:h.toNat ^^^ c.toNat=h.toNat ^^^ c'.toNat:=by omega
 exact UInt8.toNat_inj.1 (xor_right (c:=h.toNat) (by rw [Nat.xor_comm c.toNat,Nat.xor_comm c'.toNat]; exact e3))
theorem fold_range:∀ (l:List UInt8) {h:Int},0<=h->h < 18446744073709551616->0<=l.foldl dig1 h/\l.foldl dig1 h < 18446744073709551616
 | [],h,h0,h1=>⟨h0,h1⟩
 | c :: l,h,_,_=>by
  obtain ⟨g0,g1⟩:=dig1_range h c
  exact fold_range l g0 g1
theorem fold_inj:∀ (l:List UInt8) {h h':Int},0<=h->h < 18446744073709551616->0<=h'->h' < 18446744073709551616->l.foldl dig1 h=l.foldl dig1 h'->h=h'
 | [],h,h',_,_,_,_,e=>e
 | c :: l,h,h',h0,h1,g0,g1,e=>by
  obtain ⟨a0,a1⟩:=dig1_range h c
  obtain ⟨b0,b1⟩:=dig1_range h' c
  exact dig1_h h0 h1 g0 g1 (fold_inj l a0 a1 b0 b1 e)
theorem fold_set (l:List UInt8):∀ (j:Nat) (c x:UInt8) {h:Int},0<=h->h < 18446744073709551616->l[j]? = some x->(l.set j c).foldl dig1 h=l.foldl dig1 h->c=x:=by
 induction l with
 | nil=>intro j c x h _ _ hx; simp at hx
 | cons y l ih=>
  intro j c x h h0 h1 hx e
  cases j with
  | zero=>
   rw [List.getElem?_cons_zero] at hx
   cases hx
   rw [List.set_cons_zero,List.foldl_cons,List.foldl_cons] at e
   obtain ⟨a0,a1⟩:=dig1_range h c
   obtain ⟨b0,b1⟩:=dig1_range h y
   exact dig1_c h0 h1 (fold_inj l a0 a1 b0 b1 e)
  | succ j=>
   rw [List.getElem?_cons_succ] at hx
   rw [List.set_cons_succ,List.foldl_cons,List.foldl_cons] at e
   obtain ⟨b0,b1⟩:=dig1_range h y
   exact ih j c x b0 b1 hx e
theorem digS_fst (l:List UInt8):(digS l).1=l.foldl dig1 14695981039346656037:=by
 unfold digS
 split
 ·rename_i h; exact h.1.symm
 ·rfl
theorem digS_set {l:List UInt8} {j:Nat} {c x:UInt8} (hx:l[j]? = some x) (hc:c ≠ x):digS (l.set j c) ≠ digS l:=fun e=>by
 have h:=congrArg Prod.fst e
 rw [digS_fst,digS_fst] at h
 exact hc (fold_set l j c x (by decide) (by decide) hx h)
theorem seal_law (b:List UInt8) (j:Nat) (c x:UInt8) (hx:(sealS b)[j]? = some x) (hc:c ≠ x):entriesS ((sealS b).set j c)=([],14):=by
 have hl:(sealS b).length=b.length + 16:=by unfold sealS; rw [List.length_append,beD_length]
 have hb:(beD (digS b)).length=16:=beD_length _
 have hj:j < b.length + 16:=by rw [<-hl]; exact (List.getElem?_eq_some_iff.1 hx).1
 unfold entriesS
 rw [List.length_set,hl,if_neg (by omega),Nat.add_sub_cancel,List.take_set,List.drop_set,if_pos]
 unfold sealS at hx ⊢
 rw [List.take_left,List.drop_left]
 by_cases h:j < b.length
 ·rw [if_pos h]
  have h1:=fixD_be (digS_ok b) []
  rw [List.append_nil] at h1
  rw [h1]
  rw [List.getElem?_append_left h] at hx
  exact digS_set hx hc
 ·rw [if_neg h,List.set_eq_of_length_le (by omega)]
  intro e
  have h2:=beD_fix (l:=(beD (digS b)).set (j - b.length) c) (by rw [List.length_set]; omega)
  rw [<-e,List.take_of_length_le (by rw [List.length_set]; omega)] at h2
  rw [List.getElem?_append_right (by omega),h2,List.getElem?_set_self (by omega)] at hx
  cases hx
  exact hc rfl
end Go.Proofs.YtijkieiihpiljaaGreat
