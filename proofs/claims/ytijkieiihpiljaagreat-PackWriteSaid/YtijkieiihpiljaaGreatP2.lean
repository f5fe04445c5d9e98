/- Joined texts: PkS, PkT, PkU, PkV, PkW, PkX, PkY, PkH, PkP, PkJ. -/
import Derived.Test.YtijkieiihpiljaaGreatP1
import Derived.Test.YtijkieiihpiljaaGreatK4
import Derived.Test.YtijkieiihpiljaaGreatK6
import Derived.Laws.MakeOwn
/- The suffix automaton on paper: words,and what one more letter does. -/
set_option maxRecDepth 100000
set_option maxHeartbeats 16000000
open Go.Lib (hid)
namespace Go.Proofs.YtijkieiihpiljaaGreat
set_option linter.unusedVariables false
def Oc (s w:List UInt8) (j:Nat):Prop:=j<=s.length/\w <:+ s.take j
def Fac (s w:List UInt8):Prop:=∃ j,Oc s w j
def LM (s w:List UInt8):Prop:=w <+: s\/∃ a b,a ≠ b/\Fac s (a :: w)/\Fac s (b :: w)
structure Ext (s w x:List UInt8):Prop where
 suf:w <:+ x
 lm:LM s x
 oc:∀ j,Oc s w j->Oc s x j
 fac:Fac s w
theorem suf_len {α:Type} {a b:List α} (h:a <:+ b) (hl:a.length=b.length):a=b:=h.eq_of_length hl
theorem suf_more {α:Type} {a b:List α} (h:a <:+ b) (hl:a.length < b.length):∃ x,(x :: a) <:+ b:=by
 obtain ⟨t,rfl⟩:=h
 have ht:t ≠ []:=by rintro rfl; simp at hl
 refine ⟨t.getLast ht,t.dropLast,?_⟩
 conv=>rhs; rw [<-List.dropLast_concat_getLast ht]
 simp
theorem suf_head {α:Type} {x y:α} {a b:List α} (h1:(x :: a) <:+ b) (h2:(y :: a) <:+ b):x=y:=by
 have h:=List.suffix_of_suffix_length_le h1 h2 (by simp)
 have:=suf_len h (by simp)
 simpa using this
theorem suf_two {α:Type} {a b c:List α} (h1:a <:+ c) (h2:b <:+ c) (hl:a.length<=b.length):a <:+ b:=List.suffix_of_suffix_length_le h1 h2 hl
theorem suf_snoc {α:Type} {a b:List α} {x y:α}:(a ++ [x]) <:+ (b ++ [y]) ↔ a <:+ b/\x=y:=by
 constructor
 ·rintro ⟨t,h⟩
  rw [<-List.append_assoc] at h
  obtain ⟨h1,h2⟩:=List.append_inj' h rfl
  exact ⟨⟨t,h1⟩,by simpa using h2⟩
 ·rintro ⟨⟨t,rfl⟩,rfl⟩
  exact ⟨t,by simp⟩
theorem Oc.suf {s w x:List UInt8} {j:Nat} (h:Oc s x j) (hw:w <:+ x):Oc s w j:=⟨h.1,hw.trans h.2⟩
theorem Oc.len {s w:List UInt8} {j:Nat} (h:Oc s w j):w.length<=j:=by
 have:=h.2.length_le
 rw [List.length_take] at this
 omega
theorem Oc.pre {s w:List UInt8} (h:w <+: s):Oc s w w.length:=⟨h.length_le,by rw [<-List.prefix_iff_eq_take.1 h]; exact List.suffix_refl _⟩
theorem Oc.pre_of {s w:List UInt8} {j:Nat} (h:Oc s w j) (hl:w.length=j):w <+: s:=by
 have:=suf_len h.2 (by rw [List.length_take,hl]; have:=h.1; omega)
 rw [this]
 exact List.take_prefix _ _
theorem Fac.suf {s w x:List UInt8} (h:Fac s x) (hw:w <:+ x):Fac s w:=⟨h.choose,h.choose_spec.suf hw⟩
theorem Fac.len {s w:List UInt8} (h:Fac s w):w.length<=s.length:=by obtain ⟨j,h⟩:=h; have:=h.len; have:=h.1; omega
theorem LM.fac {s w:List UInt8} (h:LM s w):Fac s w:=by
 rcases h with h | ⟨a,b,_,h,_⟩
 ·exact ⟨_,Oc.pre h⟩
 ·exact h.suf (List.suffix_cons _ _)
theorem lm_nil (s:List UInt8):LM s []:=.inl (List.nil_prefix)
theorem lm_self (s:List UInt8):LM s s:=.inl (List.prefix_refl _)
theorem oc_end {s w:List UInt8} (h:w <:+ s):Oc s w s.length:=⟨Nat.le_refl _,by rw [List.take_length]; exact h⟩
theorem oc_end_iff {s w:List UInt8}:Oc s w s.length ↔ w <:+ s:=⟨fun h=>by have:=h.2; rwa [List.take_length] at this,oc_end⟩
theorem ext_lm {s w:List UInt8} (h:LM s w):Ext s w w:=⟨List.suffix_refl _,h,fun _ h=>h,h.fac⟩
theorem ext_eq {s w x y:List UInt8} (h:Ext s w x) (hy:LM s y) (h1:w <:+ y) (h2:y <:+ x):y=x:=by
 by_cases hl:y.length=x.length
 ·exact suf_len h2 hl
 have hl2:=h2.length_le
 obtain ⟨a,ha⟩:=suf_more h2 (by omega)
 rcases hy with hy | ⟨c,d,hcd,⟨i,hi⟩,j,hj⟩
 ·have:=(h.oc _ ((Oc.pre hy).suf h1)).len
  omega
 ·have e1:=suf_head (ha.trans (h.oc _ (hi.suf (h1.trans (List.suffix_cons _ _)))).2) hi.2
  have e2:=suf_head (ha.trans (h.oc _ (hj.suf (h1.trans (List.suffix_cons _ _)))).2) hj.2
  exact absurd (e1.symm.trans e2) hcd
theorem ext_uniq {s w x y:List UInt8} (h1:Ext s w x) (h2:Ext s w y):x=y:=by
 obtain ⟨j,hj⟩:=h1.fac
 have a:=(h1.oc j hj).2
 have b:=(h2.oc j hj).2
 by_cases hl:x.length<=y.length
 ·exact ext_eq h2 h1.lm h1.suf (suf_two a b hl)
 ·exact (ext_eq h1 h2.lm h2.suf (suf_two b a (by omega))).symm
theorem ext_mid {s w x y:List UInt8} (h:Ext s w x) (h1:w <:+ y) (h2:y <:+ x):Ext s y x:=⟨h2,h.lm,fun j hj=>h.oc j (hj.suf h1),h.lm.fac.suf h2⟩
theorem ext_ex {s:List UInt8}:∀ (n:Nat) (w:List UInt8),s.length - w.length<=n->Fac s w->∃ x,Ext s w x:=by
 intro n
 induction n with
 | zero=>
  intro w hn hf
  obtain ⟨j,hj⟩:=hf
  have h1:=hj.len
  have h2:=hj.1
  exact ⟨w,ext_lm (.inl (hj.pre_of (by omega)))⟩
 | succ n ih=>
  intro w hn hf
  by_cases hw:LM s w
  ·exact ⟨w,ext_lm hw⟩
  have key:∀ j,Oc s w j->∃ a,Oc s (a :: w) j:=fun j hj=>by
   have h1:=hj.len
   by_cases e:w.length=j
   ·exact absurd (.inl (hj.pre_of e)) hw
   ·obtain ⟨a,ha⟩:=suf_more hj.2 (by rw [List.length_take]; have:=hj.1; omega)
    exact ⟨a,hj.1,ha⟩
  obtain ⟨j,hj⟩:=hf
  obtain ⟨a,ha⟩:=key j hj
  obtain ⟨x,hx⟩:=ih (a :: w) (by simp; omega) ⟨j,ha⟩
  refine ⟨x,(List.suffix_cons _ _).trans hx.suf,hx.lm,fun i hi=>?_,⟨j,hj⟩⟩
  obtain ⟨b,hb⟩:=key i hi
  have e:a=b:=by
   by_cases e:a=b
   ·exact e
   ·exact absurd (.inr ⟨a,b,e,⟨j,ha⟩,⟨i,hb⟩⟩) hw
  subst e
  exact hx.oc i hb
theorem ext_of {s w:List UInt8} (h:Fac s w):∃ x,Ext s w x:=ext_ex _ w (Nat.le_refl _) h
theorem oc_snoc {s w:List UInt8} {d:UInt8} {k:Nat}:Oc s (w ++ [d]) k ↔ ∃ j,k=j + 1/\Oc s w j/\s[j]? = some d:=by
 constructor
 ·intro h
  have h1:=h.len
  simp only [List.length_append,List.length_singleton] at h1
  obtain ⟨j,rfl⟩:∃ j,k=j + 1:=⟨k - 1,by omega⟩
  have h2:=h.1
  have h3:=h.2
  rw [List.take_add_one,List.getElem?_eq_getElem (by omega)] at h3
  obtain ⟨h4,h5⟩:=suf_snoc.1 h3
  exact ⟨j,rfl,⟨by omega,h4⟩,by rw [List.getElem?_eq_getElem (by omega),h5]⟩
 ·rintro ⟨j,rfl,h1,h2⟩
  have h3:=(List.getElem?_eq_some_iff.1 h2).1
  refine ⟨by omega,?_⟩
  rw [List.take_add_one,h2]
  exact suf_snoc.2 ⟨h1.2,rfl⟩
theorem ext_snoc {s w x:List UInt8} (h:Ext s w x) {d:UInt8} {k:Nat} (hk:Oc s (w ++ [d]) k):Oc s (x ++ [d]) k:=by
 obtain ⟨j,rfl,h1,h2⟩:=oc_snoc.1 hk
 exact oc_snoc.2 ⟨j,rfl,h.oc j h1,h2⟩
theorem ext_step {s w x y:List UInt8} {d:UInt8} (h:Ext s w x) (h2:Ext s (x ++ [d]) y):Ext s (w ++ [d]) y:=
 ⟨(suf_snoc.2 ⟨h.suf,rfl⟩).trans h2.suf,h2.lm,fun j hj=>h2.oc j (ext_snoc h hj),h2.fac.suf (suf_snoc.2 ⟨h.suf,rfl⟩)⟩
theorem ext_none {s w x:List UInt8} {d:UInt8} (h:Ext s w x) (h2:¬ Fac s (x ++ [d])):¬ Fac s (w ++ [d]):=fun ⟨j,hj⟩=>h2 ⟨j,ext_snoc h hj⟩
section
variable {s:List UInt8} {c:UInt8}
theorem oc_more {w:List UInt8} {j:Nat}:Oc (s ++ [c]) w j ↔ Oc s w j\/(j=s.length + 1/\w <:+ s ++ [c]):=by
 constructor
 ·rintro ⟨h1,h2⟩
  simp only [List.length_append,List.length_singleton] at h1
  by_cases e:j=s.length + 1
  ·subst e
   rw [List.take_of_length_le (by simp)] at h2
   exact .inr ⟨rfl,h2⟩
  ·rw [List.take_append_of_le_length (by omega)] at h2
   exact .inl ⟨by omega,h2⟩
 ·rintro (⟨h1,h2⟩ | ⟨rfl,h2⟩)
  ·exact ⟨by simp; omega,by rw [List.take_append_of_le_length h1]; exact h2⟩
  ·exact ⟨by simp,by rw [List.take_of_length_le (by simp)]; exact h2⟩
theorem fac_more {w:List UInt8}:Fac (s ++ [c]) w ↔ Fac s w\/w <:+ s ++ [c]:=by
 constructor
 ·rintro ⟨j,hj⟩
  rcases oc_more.1 hj with h | ⟨_,h⟩
  ·exact .inl ⟨j,h⟩
  ·exact .inr h
 ·rintro (⟨j,h⟩ | h)
  ·exact ⟨j,oc_more.2 (.inl h)⟩
  ·exact ⟨_,oc_more.2 (.inr ⟨rfl,h⟩)⟩
theorem lm_more {w:List UInt8} (h:LM s w):LM (s ++ [c]) w:=by
 rcases h with h | ⟨a,b,e,h1,h2⟩
 ·exact .inl (h.trans (List.prefix_append _ _))
 ·exact .inr ⟨a,b,e,fac_more.2 (.inl h1),fac_more.2 (.inl h2)⟩
structure Top (s:List UInt8) (c:UInt8) (L:List UInt8):Prop where
 suf:L <:+ s ++ [c]
 fac:Fac s L
 top:∀ x,x <:+ s ++ [c]->Fac s x->x <:+ L
theorem lm_iff {L:List UInt8} (h:Top s c L) (w:List UInt8):LM (s ++ [c]) w ↔ LM s w\/w=s ++ [c]\/w=L:=by
 have key:∀ {a b:UInt8},a ≠ b->(a :: w) <:+ s ++ [c]->¬ Fac s (a :: w)->Fac s (b :: w)->w=L:=by
  intro a b e h1 h2 h3
  have hw:=h.top w ((List.suffix_cons _ _).trans h1) (h3.suf (List.suffix_cons _ _))
  by_cases hl:w.length=L.length
  ·exact suf_len hw hl
  obtain ⟨d,hd⟩:=suf_more hw (by have:=hw.length_le; omega)
  have:=suf_head (hd.trans h.suf) h1
  subst this
  exact absurd (h.fac.suf hd) h2
 constructor
 ·rintro (h1 | ⟨a,b,e,h1,h2⟩)
  ·by_cases hl:w.length=(s ++ [c]).length
   ·exact .inr (.inl (h1.eq_of_length hl))
   ·have h2:=h1.length_le
    simp only [List.length_append,List.length_singleton] at hl h2
    have h3:=List.prefix_iff_eq_take.1 h1
    rw [List.take_append_of_le_length (by omega)] at h3
    exact .inl (.inl (by rw [h3]; exact List.take_prefix _ _))
  ·by_cases f1:Fac s (a :: w)
   ·by_cases f2:Fac s (b :: w)
    ·exact .inl (.inr ⟨a,b,e,f1,f2⟩)
    ·exact .inr (.inr (key (Ne.symm e) ((fac_more.1 h2).resolve_left f2) f2 f1))
   ·by_cases f2:Fac s (b :: w)
    ·exact .inr (.inr (key e ((fac_more.1 h1).resolve_left f1) f1 f2))
    ·exact absurd (suf_head ((fac_more.1 h1).resolve_left f1) ((fac_more.1 h2).resolve_left f2)) e
 ·rintro (h1 | rfl | rfl)
  ·exact lm_more h1
  ·exact lm_self _
  ·by_cases hp:LM s w
   ·exact lm_more hp
   obtain ⟨j,hj⟩:=h.fac
   have h1:=hj.len
   obtain ⟨b,hb⟩:=suf_more hj.2 (by
    rw [List.length_take]
    have:=hj.1
    by_cases e:w.length=j
    ·exact absurd (.inl (hj.pre_of e)) hp
    ·omega)
   obtain ⟨a,ha⟩:=suf_more h.suf (by have:=h.fac.len; simp; omega)
   refine .inr ⟨a,b,fun e=>?_,fac_more.2 (.inr ha),fac_more.2 (.inl ⟨j,hj.1,hb⟩)⟩
   subst e
   have:=(h.top _ ha ⟨j,hj.1,hb⟩).length_le
   simp at this
   omega
theorem ext_more {w x:List UInt8} (h:Ext s w x) (hs:w <:+ s ++ [c]->x <:+ s ++ [c]):Ext (s ++ [c]) w x:=
 ⟨h.suf,lm_more h.lm,fun j hj=>by
  rcases oc_more.1 hj with h1 | ⟨rfl,h1⟩
  ·exact oc_more.2 (.inl (h.oc j h1))
  ·exact oc_more.2 (.inr ⟨rfl,hs h1⟩),fac_more.2 (.inl h.fac)⟩
theorem ext_top {L w x:List UInt8} (ht:Top s c L) (h:Ext s w x) (h1:w <:+ s ++ [c]) (h2:¬ x <:+ s ++ [c]):Ext (s ++ [c]) w L/\Ext s L x:=by
 have hw:=ht.top w h1 h.fac
 obtain ⟨j,hj⟩:=ht.fac
 have hx:=h.oc j (hj.suf hw)
 have hlx:L <:+ x:=by
  by_cases hl:L.length<=x.length
  ·exact suf_two hj.2 hx.2 hl
  ·exact absurd ((suf_two hx.2 hj.2 (by omega)).trans ht.suf) h2
 refine ⟨⟨hw,(lm_iff ht L).2 (.inr (.inr rfl)),fun i hi=>?_,fac_more.2 (.inr h1)⟩,ext_mid h hw hlx⟩
 rcases oc_more.1 hi with h3 | ⟨rfl,_⟩
 ·exact oc_more.2 (.inl ((h.oc i h3).suf hlx))
 ·exact oc_more.2 (.inr ⟨rfl,ht.suf⟩)
theorem ext_whole {w:List UInt8} (h1:w <:+ s ++ [c]) (h2:¬ Fac s w):Ext (s ++ [c]) w (s ++ [c]):=
 ⟨h1,lm_self _,fun j hj=>by
  rcases oc_more.1 hj with h3 | ⟨rfl,_⟩
  ·exact absurd ⟨j,h3⟩ h2
  ·exact oc_more.2 (.inr ⟨rfl,List.suffix_refl _⟩),fac_more.2 (.inr h1)⟩
end
structure Aut (s:List UInt8) (n:Nat) (ln:Nat->Nat) (lk:Nat->Int) (fn:Nat->Nat) (tr:Nat->UInt8->Option Nat) (W:Nat->List UInt8):Prop where
 pos:0 < n
 w0:W 0=[]
 len:∀ v,v < n->ln v=(W v).length
 inj:∀ u v,u < n->v < n->W u=W v->u=v
 lm:∀ v,v < n->LM s (W v)
 all:∀ w,LM s w->∃ v,v < n/\W v=w
 fin:∀ v,v < n->Oc s (W v) (fn v)/\∀ j,Oc s (W v) j->fn v<=j
 lk0:lk 0 = -1
 lk:∀ v,v < n->v ≠ 0->∃ u,lk v=((u:Nat):Int)/\u < n/\W u <:+ W v/\W u ≠ W v/\∀ x,LM s x->x <:+ W v->x ≠ W v->x <:+ W u
 trS:∀ v,v < n->∀ d u,tr v d=some u->u < n/\Ext s (W v ++ [d]) (W u)
 trN:∀ v,v < n->∀ d,tr v d=none->¬ Fac s (W v ++ [d])
theorem Aut.start:Aut [] 1 (fun _=>0) (fun _=>-1) (fun _=>0) (fun _ _=>none) (fun _=>[]) where
 pos:=by omega
 w0:=rfl
 len:=fun v h=>rfl
 inj:=fun u v h1 h2 _=>by omega
 lm:=fun v h=>lm_nil _
 all:=fun w hw=>⟨0,by omega,by
  have:=hw.fac.len
  simp only [List.length_nil,Nat.le_zero] at this
  exact (List.length_eq_zero_iff.1 this).symm⟩
 fin:=fun v h=>⟨⟨Nat.le_refl _,List.nil_suffix⟩,fun j _=>by omega⟩
 lk0:=rfl
 lk:=fun v h h2=>by omega
 trS:=fun v h d u e=>by cases e
 trN:=fun v h d _ hf=>by have:=hf.len; simp at this
section
variable {s:List UInt8} {n:Nat} {ln:Nat->Nat} {lk:Nat->Int} {fn:Nat->Nat} {tr:Nat->UInt8->Option Nat} {W:Nat->List UInt8} {c:UInt8}
theorem Aut.fac_tr (h:Aut s n ln lk fn tr W) {v:Nat} (hv:v < n) {d:UInt8} (hf:Fac s (W v ++ [d])):∃ u,tr v d=some u/\u < n/\Ext s (W v ++ [d]) (W u):=by
 cases e:tr v d with
 | none=>exact absurd hf (h.trN v hv d e)
 | some u=>obtain ⟨h1,h2⟩:=h.trS v hv d u e; exact ⟨u,rfl,h1,h2⟩
theorem Aut.ends (h:Aut s n ln lk fn tr W) {v:Nat} (hv:v < n) (hn:∀ v,v < n->W v <:+ s->tr v c=none):Top s c []:=by
 refine ⟨List.nil_suffix,(lm_nil s).fac,fun x h1 h2=>?_⟩
 rcases List.eq_nil_or_concat x with rfl | ⟨y,d,rfl⟩
 ·exact List.suffix_refl _
 ·simp only [List.concat_eq_append] at h1 h2
  obtain ⟨h3,rfl⟩:=suf_snoc.1 h1
  obtain ⟨k,hk⟩:=h2
  obtain ⟨j,_,hj,_⟩:=oc_snoc.1 hk
  obtain ⟨z,hz⟩:=ext_of ⟨j,hj⟩
  obtain ⟨u,hu,rfl⟩:=h.all z hz.lm
  exact absurd ⟨k,ext_snoc hz hk⟩ (h.trN u hu d (hn u hu (oc_end_iff.1 (hz.oc _ (oc_end h3)))))
theorem Aut.tops (h:Aut s n ln lk fn tr W) {p q:Nat} (hp:p < n) (hs:W p <:+ s) (hq:tr p c=some q) (hn:∀ v,v < n->W v <:+ s->(W p).length < (W v).length->tr v c=none):Top s c (W p ++ [c]):=by
 refine ⟨suf_snoc.2 ⟨hs,rfl⟩,(h.trS p hp c q hq).2.fac,fun x h1 h2=>?_⟩
 rcases List.eq_nil_or_concat x with rfl | ⟨y,d,rfl⟩
 ·exact List.nil_suffix
 ·simp only [List.concat_eq_append] at h1 h2 ⊢
  obtain ⟨h3,rfl⟩:=suf_snoc.1 h1
  obtain ⟨k,hk⟩:=h2
  obtain ⟨j,_,hj,_⟩:=oc_snoc.1 hk
  obtain ⟨z,hz⟩:=ext_of ⟨j,hj⟩
  obtain ⟨u,hu,rfl⟩:=h.all z hz.lm
  have hus:=oc_end_iff.1 (hz.oc _ (oc_end h3))
  refine suf_snoc.2 ⟨?_,rfl⟩
  by_cases hl:(W u).length<=(W p).length
  ·exact hz.suf.trans (suf_two hus hs hl)
  ·exact absurd ⟨k,ext_snoc hz hk⟩ (h.trN u hu d (hn u hu hus (by omega)))
theorem next_more {L w x:List UInt8} {d:UInt8} (ht:Top s c L) (hx:Ext s (w ++ [d]) x) (hc:¬ (w ++ [d] <:+ s ++ [c]/\¬ x <:+ s ++ [c])):Ext (s ++ [c]) (w ++ [d]) x:=
 ext_more hx (fun h1=>by
  by_cases h2:x <:+ s ++ [c]
  ·exact h2
  ·exact absurd ⟨h1,h2⟩ hc)
theorem whole_new {w:List UInt8} (h:Fac s w):w ≠ s ++ [c]:=fun e=>by have:=h.len; rw [e] at this; simp at this; omega
theorem Aut.stepA (h:Aut s n ln lk fn tr W) {r:Nat} (hr:r < n) (ht:Top s c (W r))
  {ln':Nat->Nat} {lk':Nat->Int} {fn':Nat->Nat} {tr':Nat->UInt8->Option Nat}
  (l1:∀ v,v < n->ln' v=ln v) (l2:ln' n=s.length + 1) (k1:∀ v,v < n->lk' v=lk v) (k2:lk' n=((r:Nat):Int)) (f1:∀ v,v < n->fn' v=fn v) (f2:fn' n=s.length + 1)
  (t1:∀ v,v < n->∀ d,d ≠ c\/¬ W v <:+ s\/tr v c ≠ none->tr' v d=tr v d) (t2:∀ v,v < n->W v <:+ s->tr v c=none->tr' v c=some n) (t3:∀ d,tr' n d=none) :
  Aut (s ++ [c]) (n + 1) ln' lk' fn' tr' (fun k=>if k=n then s ++ [c] else W k):=by
 have hlm:∀ w,LM (s ++ [c]) w ↔ LM s w\/w=s ++ [c]:=fun w=>by
  rw [lm_iff ht w]
  constructor
  ·rintro (h1 | h1 | rfl)
   ·exact .inl h1
   ·exact .inr h1
   ·exact .inl (h.lm r hr)
  ·rintro (h1 | h1)
   ·exact .inl h1
   ·exact .inr (.inl h1)
 have hfc:∀ v,v < n->Fac s (W v):=fun v hv=>(h.lm v hv).fac
 exact {
  pos:=by omega
  w0:=by rw [if_neg (by have:=h.pos; omega)]; exact h.w0
  len:=fun v hv=>by
   by_cases e:v=n
   ·subst e; simp [l2]
   ·simp only [if_neg e]; rw [l1 v (by omega)]; exact h.len v (by omega)
  inj:=fun u v hu hv e=>by
   by_cases eu:u=n <;> by_cases ev:v=n
   ·omega
   ·simp only [if_pos eu,if_neg ev] at e
    exact absurd e.symm (whole_new (hfc v (by omega)))
   ·simp only [if_pos ev,if_neg eu] at e
    exact absurd e (whole_new (hfc u (by omega)))
   ·simp only [if_neg eu,if_neg ev] at e
    exact h.inj u v (by omega) (by omega) e
  lm:=fun v hv=>by
   by_cases e:v=n
   ·simp only [if_pos e]; exact lm_self _
   ·simp only [if_neg e]; exact lm_more (h.lm v (by omega))
  all:=fun w hw=>by
   rcases (hlm w).1 hw with h1 | rfl
   ·obtain ⟨v,hv,rfl⟩:=h.all w h1
    exact ⟨v,by omega,by rw [if_neg (by omega)]⟩
   ·exact ⟨n,by omega,by simp⟩
  fin:=fun v hv=>by
   by_cases e:v=n
   ·subst e
    simp only [if_true,f2]
    refine ⟨by have:=oc_end (s:=s ++ [c]) (List.suffix_refl _); simpa using this,fun j hj=>?_⟩
    have:=hj.len
    simpa using this
   ·simp only [if_neg e]
    rw [f1 v (by omega)]
    obtain ⟨h1,h2⟩:=h.fin v (by omega)
    refine ⟨oc_more.2 (.inl h1),fun j hj=>?_⟩
    rcases oc_more.1 hj with h3 | ⟨rfl,_⟩
    ·exact h2 j h3
    ·have:=h1.1; omega
  lk0:=by rw [k1 0 h.pos]; exact h.lk0
  lk:=fun v hv h0=>by
   by_cases e:v=n
   ·subst e
    simp only [if_true]
    refine ⟨r,k2,by omega,?_,?_,fun x hx h1 h2=>?_⟩
    ·rw [if_neg (by omega)]; exact ht.suf
    ·rw [if_neg (by omega)]; exact whole_new (hfc r hr)
    ·rw [if_neg (by omega)]
     rcases (hlm x).1 hx with h3 | h3
     ·exact ht.top x h1 h3.fac
     ·exact absurd h3 h2
   ·simp only [if_neg e]
    obtain ⟨u,a1,a2,a3,a4,a5⟩:=h.lk v (by omega) h0
    refine ⟨u,by rw [k1 v (by omega)]; exact a1,by omega,by rw [if_neg (by omega)]; exact a3,by rw [if_neg (by omega)]; exact a4,fun x hx h1 h2=>?_⟩
    rw [if_neg (by omega)]
    rcases (hlm x).1 hx with h3 | h3
    ·exact a5 x h3 h1 h2
    ·exact absurd h3 (whole_new ((hfc v (by omega)).suf h1))
  trS:=fun v hv d u hu=>by
   by_cases e:v=n
   ·subst e; rw [t3] at hu; cases hu
   simp only [if_neg e]
   have hv2:v < n:=by omega
   by_cases hc:d=c/\W v <:+ s/\tr v c=none
   ·obtain ⟨rfl,hs,hno⟩:=hc
    rw [t2 v hv2 hs hno] at hu
    cases hu
    refine ⟨by omega,?_⟩
    simp only [if_true]
    exact ext_whole (suf_snoc.2 ⟨hs,rfl⟩) (h.trN v hv2 d hno)
   ·rw [t1 v hv2 d (by
     by_cases e2:d=c
     ·by_cases e3:W v <:+ s
      ·exact .inr (.inr (fun e4=>hc ⟨e2,e3,e4⟩))
      ·exact .inr (.inl e3)
     ·exact .inl e2)] at hu
    obtain ⟨h1,h2⟩:=h.trS v hv2 d u hu
    refine ⟨by omega,?_⟩
    rw [if_neg (by omega)]
    refine next_more ht h2 (fun h3=>?_)
    have h4:=(ext_top ht h2 h3.1 h3.2).2
    rw [ext_uniq h4 (ext_lm (h.lm r hr))] at h3
    exact h3.2 ht.suf
  trN:=fun v hv d hd=>by
   by_cases e:v=n
   ·subst e
    simp only [if_true]
    intro hf
    have:=hf.len
    simp at this
   simp only [if_neg e]
   have hv2:v < n:=by omega
   by_cases hc:d=c/\W v <:+ s/\tr v c=none
   ·obtain ⟨rfl,hs,hno⟩:=hc
    rw [t2 v hv2 hs hno] at hd
    cases hd
   ·rw [t1 v hv2 d (by
     by_cases e2:d=c
     ·by_cases e3:W v <:+ s
      ·exact .inr (.inr (fun e4=>hc ⟨e2,e3,e4⟩))
      ·exact .inr (.inl e3)
     ·exact .inl e2)] at hd
    intro hf
    rcases fac_more.1 hf with h1 | h1
    ·exact h.trN v hv2 d hd h1
    ·obtain ⟨h2,rfl⟩:=suf_snoc.1 h1
     exact hc ⟨rfl,h2,hd⟩ }
theorem Aut.stepC (h:Aut s n ln lk fn tr W) {p q:Nat} (hp:p < n) (hq:tr p c=some q) (ht:Top s c (W p ++ [c])) (hl:(W q).length ≠ (W p).length + 1)
  {ln':Nat->Nat} {lk':Nat->Int} {fn':Nat->Nat} {tr':Nat->UInt8->Option Nat}
  (l1:∀ v,v < n->ln' v=ln v) (l2:ln' n=s.length + 1) (l3:ln' (n + 1)=ln p + 1)
  (k1:∀ v,v < n->v ≠ q->lk' v=lk v) (k2:lk' n=((n + 1:Nat):Int)) (k3:lk' q=((n + 1:Nat):Int)) (k4:lk' (n + 1)=lk q)
  (f1:∀ v,v < n->fn' v=fn v) (f2:fn' n=s.length + 1) (f3:fn' (n + 1)=fn q)
  (t1:∀ v,v < n->∀ d,d ≠ c\/¬ W v <:+ s\/(tr v c ≠ none/\tr v c ≠ some q)->tr' v d=tr v d) (t2:∀ v,v < n->W v <:+ s->tr v c=none->tr' v c=some n) (t4:∀ v,v < n->W v <:+ s->tr v c=some q->tr' v c=some (n + 1)) (t3:∀ d,tr' n d=none)
  (t5:∀ d,d ≠ c\/¬ W q <:+ s->tr' (n + 1) d=tr q d) (t6:W q <:+ s->tr' (n + 1) c=some n) :
  Aut (s ++ [c]) (n + 2) ln' lk' fn' tr' (fun k=>if k=n then s ++ [c] else if k=n + 1 then W p ++ [c] else W k):=by
 obtain ⟨hqn,hxq⟩:=h.trS p hp c q hq
 have hlm:=lm_iff ht
 have hfc:∀ v,v < n->Fac s (W v):=fun v hv=>(h.lm v hv).fac
 have hLq:(W p ++ [c]).length < (W q).length:=by
  have:=hxq.suf.length_le
  simp only [List.length_append,List.length_singleton] at this ⊢
  omega
 have hL:¬ LM s (W p ++ [c]):=fun hx=>by
  have:=ext_eq hxq hx (List.suffix_refl _) hxq.suf
  rw [this] at hLq
  omega
 have hLn:∀ v,v < n->W v ≠ W p ++ [c]:=fun v hv e=>hL (e ▸ h.lm v hv)
 have hLs:W p ++ [c] ≠ s ++ [c]:=whole_new ht.fac
 have hqs:¬ W q <:+ s ++ [c]:=fun hx=>by
  have:=(ht.top _ hx (hfc q hqn)).length_le
  omega
 -- the words between
 have hbt:∀ y,LM s y->W p ++ [c] <:+ y->y <:+ W q->y=W q:=fun y hy h1 h2=>ext_eq hxq hy h1 h2
 have hW:∀ v,v < n->(if v=n then s ++ [c] else if v=n + 1 then W p ++ [c] else W v)=W v:=fun v hv=>by rw [if_neg (by omega),if_neg (by omega)]
 have hW1:(if n + 1=n then s ++ [c] else if n + 1=n + 1 then W p ++ [c] else W (n + 1))=W p ++ [c]:=by rw [if_neg (by omega),if_pos rfl]
 have hcase:∀ v,v < n + 2->v < n\/v=n\/v=n + 1:=fun v hv=>by omega
 -- what leads to q from an end of the text has the new node for its longest word
 have hto:∀ v,v < n->W v <:+ s->∀ u,tr v c=some u->W u <:+ s ++ [c]\/u=q:=fun v hv hs u hu=>by
  obtain ⟨hun,hx⟩:=h.trS v hv c u hu
  by_cases e:W u <:+ s ++ [c]
  ·exact .inl e
  ·exact .inr (h.inj _ _ hun hqn (ext_uniq (ext_top ht hx (suf_snoc.2 ⟨hs,rfl⟩) e).2 hxq))
 have hext:∀ d,Fac s (W p ++ [c] ++ [d])->¬ (W p ++ [c] ++ [d]) <:+ s ++ [c]:=fun d hf hs=>by
  have:=(ht.top _ hs hf).length_le
  simp at this
 exact {
  pos:=by omega
  w0:=by rw [hW 0 h.pos]; exact h.w0
  len:=fun v hv=>by
   rcases hcase v hv with e | rfl | rfl
   ·rw [hW v e,l1 v e]; exact h.len v e
   ·simp [l2]
   ·rw [hW1,l3,h.len p hp]; simp
  inj:=fun u v hu hv e=>by
   rcases hcase u hu with eu | rfl | rfl <;> rcases hcase v hv with ev | rfl | rfl
   ·rw [hW u eu,hW v ev] at e; exact h.inj u v eu ev e
   ·rw [hW u eu,if_pos rfl] at e; exact absurd e (whole_new (hfc u eu))
   ·rw [hW u eu,hW1] at e; exact absurd e (hLn u eu)
   ·rw [hW v ev,if_pos rfl] at e; exact absurd e.symm (whole_new (hfc v ev))
   ·rfl
   ·rw [hW1,if_pos rfl] at e; exact absurd e.symm hLs
   ·rw [hW v ev,hW1] at e; exact absurd e.symm (hLn v ev)
   ·rw [hW1,if_pos rfl] at e; exact absurd e hLs
   ·rfl
  lm:=fun v hv=>by
   rcases hcase v hv with e | rfl | rfl
   ·rw [hW v e]; exact lm_more (h.lm v e)
   ·rw [if_pos rfl]; exact lm_self _
   ·rw [hW1]; exact (hlm _).2 (.inr (.inr rfl))
  all:=fun w hw=>by
   rcases (hlm w).1 hw with h1 | rfl | rfl
   ·obtain ⟨v,hv,rfl⟩:=h.all w h1
    exact ⟨v,by omega,hW v hv⟩
   ·exact ⟨n,by omega,by simp⟩
   ·exact ⟨n + 1,by omega,hW1⟩
  fin:=fun v hv=>by
   have old:∀ w j,Oc s w j->(∀ i,Oc s w i->j<=i)->Oc (s ++ [c]) w j/\∀ i,Oc (s ++ [c]) w i->j<=i:=fun w j h1 h2=>⟨oc_more.2 (.inl h1),fun i hi=>by
    rcases oc_more.1 hi with h3 | ⟨rfl,_⟩
    ·exact h2 i h3
    ·have:=h1.1; omega⟩
   rcases hcase v hv with e | rfl | rfl
   ·rw [hW v e,f1 v e]
    obtain ⟨h1,h2⟩:=h.fin v e
    exact old _ _ h1 h2
   ·rw [if_pos rfl,f2]
    refine ⟨by have:=oc_end (s:=s ++ [c]) (List.suffix_refl _); simpa using this,fun j hj=>?_⟩
    have:=hj.len
    simpa using this
   ·rw [hW1,f3]
    obtain ⟨h1,h2⟩:=h.fin q hqn
    exact old _ _ (h1.suf hxq.suf) (fun i hi=>h2 i (hxq.oc i hi))
  lk0:=by
   rw [k1 0 h.pos (fun e=>by
    subst e
    rw [h.w0] at hLq
    simp at hLq)]
   exact h.lk0
  lk:=fun v hv h0=>by
   have hq0:q ≠ 0:=fun e=>by rw [e,h.w0] at hLq; simp at hLq
   obtain ⟨uq,b1,b2,b3,b4,b5⟩:=h.lk q hqn hq0
   have b6:(W uq).length < (W p ++ [c]).length:=by
    by_cases e:(W uq).length < (W p ++ [c]).length
    ·exact e
    ·exact absurd (hbt _ (h.lm uq b2) (suf_two hxq.suf b3 (by omega)) b3) b4
   have b7:W uq <:+ W p ++ [c]:=suf_two b3 hxq.suf (by omega)
   rcases hcase v hv with e | rfl | rfl
   ·rw [hW v e]
    by_cases eq:v=q
    ·subst eq
     refine ⟨n + 1,k3,by omega,by rw [hW1]; exact hxq.suf,by rw [hW1]; exact fun e2=>hLn _ e e2.symm,fun x hx h1 h2=>?_⟩
     rw [hW1]
     rcases (hlm x).1 hx with h3 | rfl | rfl
     ·by_cases hl2:x.length<=(W p ++ [c]).length
      ·exact suf_two h1 hxq.suf hl2
      ·exact absurd (hbt x h3 (suf_two hxq.suf h1 (by omega)) h1) h2
     ·exact absurd ((hfc _ e).suf h1).len (by simp)
     ·exact List.suffix_refl _
    ·obtain ⟨u,a1,a2,a3,a4,a5⟩:=h.lk v e h0
     refine ⟨u,by rw [k1 v e eq]; exact a1,by omega,by rw [hW u a2]; exact a3,by rw [hW u a2]; exact a4,fun x hx h1 h2=>?_⟩
     rw [hW u a2]
     rcases (hlm x).1 hx with h3 | rfl | rfl
     ·exact a5 x h3 h1 h2
     ·exact absurd ((hfc v e).suf h1).len (by simp)
     ·-- a node above the new word,but q: its link is above too
      obtain ⟨j,hj⟩:=hfc v e
      have hj2:=hxq.oc j (hj.suf h1)
      by_cases hl2:(W q).length<=(W v).length
      ·have h4:=suf_two hj2.2 hj.2 hl2
       exact hxq.suf.trans (a5 _ (h.lm q hqn) h4 (fun e2=>eq (h.inj _ _ e hqn e2.symm)))
      ·exact absurd (h.inj _ _ e hqn (hbt _ (h.lm v e) h1 (suf_two hj.2 hj2.2 (by omega)))) eq
   ·rw [if_pos rfl]
    refine ⟨_,k2,by omega,by rw [hW1]; exact ht.suf,by rw [hW1]; exact hLs,fun x hx h1 h2=>?_⟩
    rw [hW1]
    rcases (hlm x).1 hx with h3 | h3 | rfl
    ·exact ht.top x h1 h3.fac
    ·exact absurd h3 h2
    ·exact List.suffix_refl _
   ·rw [hW1]
    refine ⟨uq,by rw [k4]; exact b1,by omega,by rw [hW uq b2]; exact b7,by rw [hW uq b2]; exact hLn uq b2,fun x hx h1 h2=>?_⟩
    rw [hW uq b2]
    rcases (hlm x).1 hx with h3 | rfl | rfl
    ·exact b5 x h3 (h1.trans hxq.suf) (fun e=>by rw [e] at h1; have:=h1.length_le; omega)
    ·exact absurd (ht.fac.suf h1).len (by simp)
    ·exact absurd rfl h2
  trS:=fun v hv d u hu=>by
   rcases hcase v hv with e | rfl | rfl
   ·rw [hW v e]
    by_cases hc:d=c/\W v <:+ s
    ·obtain ⟨rfl,hs⟩:=hc
     cases hno:tr v d with
     | none=>
      rw [t2 v e hs hno] at hu
      cases hu
      refine ⟨by omega,?_⟩
      rw [if_pos rfl]
      exact ext_whole (suf_snoc.2 ⟨hs,rfl⟩) (h.trN v e d hno)
     | some u1=>
      obtain ⟨g1,g2⟩:=h.trS v e d u1 hno
      by_cases eq:u1=q
      ·subst eq
       rw [t4 v e hs hno] at hu
       cases hu
       refine ⟨by omega,?_⟩
       rw [hW1]
       exact (ext_top ht g2 (suf_snoc.2 ⟨hs,rfl⟩) hqs).1
      ·rw [t1 v e d (.inr (.inr ⟨by rw [hno]; simp,by rw [hno]; simpa using eq⟩)),hno] at hu
       cases hu
       refine ⟨by omega,?_⟩
       rw [hW _ g1]
       refine next_more ht g2 (fun h3=>?_)
       rcases hto v e hs _ hno with h4 | h4
       ·exact h3.2 h4
       ·exact eq h4
    ·rw [t1 v e d (by
      by_cases e2:d=c
      ·exact .inr (.inl (fun hs=>hc ⟨e2,hs⟩))
      ·exact .inl e2)] at hu
     obtain ⟨g1,g2⟩:=h.trS v e d u hu
     refine ⟨by omega,?_⟩
     rw [hW u g1]
     exact next_more ht g2 (fun h3=>hc ⟨(suf_snoc.1 h3.1).2,(suf_snoc.1 h3.1).1⟩)
   ·rw [t3] at hu; cases hu
   ·rw [hW1]
    by_cases hc:d=c/\W q <:+ s
    ·obtain ⟨rfl,hs⟩:=hc
     rw [t6 hs] at hu
     cases hu
     refine ⟨by omega,?_⟩
     rw [if_pos rfl]
     have h1:(W p ++ [d]) ++ [d] <:+ s ++ [d]:=suf_snoc.2 ⟨hxq.suf.trans hs,rfl⟩
     exact ext_whole h1 (fun hf=>hext d hf h1)
    ·rw [t5 d (by
      by_cases e2:d=c
      ·exact .inr (fun hs=>hc ⟨e2,hs⟩)
      ·exact .inl e2)] at hu
     obtain ⟨g1,g2⟩:=h.trS q hqn d u hu
     refine ⟨by omega,?_⟩
     rw [hW u g1]
     have g3:=ext_step hxq g2
     exact ext_more g3 (fun h1=>absurd h1 (hext d g3.fac))
  trN:=fun v hv d hd=>by
   rcases hcase v hv with e | rfl | rfl
   ·rw [hW v e]
    by_cases hc:d=c/\W v <:+ s
    ·obtain ⟨rfl,hs⟩:=hc
     cases hno:tr v d with
     | none=>rw [t2 v e hs hno] at hd; cases hd
     | some u1=>
      by_cases eq:u1=q
      ·subst eq
       rw [t4 v e hs hno] at hd
       cases hd
      ·rw [t1 v e d (.inr (.inr ⟨by rw [hno]; simp,by rw [hno]; simpa using eq⟩)),hno] at hd
       cases hd
    ·rw [t1 v e d (by
      by_cases e2:d=c
      ·exact .inr (.inl (fun hs=>hc ⟨e2,hs⟩))
      ·exact .inl e2)] at hd
     intro hf
     rcases fac_more.1 hf with h1 | h1
     ·exact h.trN v e d hd h1
     ·exact hc ⟨(suf_snoc.1 h1).2,(suf_snoc.1 h1).1⟩
   ·rw [if_pos rfl]
    intro hf
    have:=hf.len
    simp at this
   ·rw [hW1]
    by_cases hc:d=c/\W q <:+ s
    ·obtain ⟨rfl,hs⟩:=hc
     rw [t6 hs] at hd
     cases hd
    ·rw [t5 d (by
      by_cases e2:d=c
      ·exact .inr (fun hs=>hc ⟨e2,hs⟩)
      ·exact .inl e2)] at hd
     have g1:=ext_none hxq (h.trN q hqn d hd)
     intro hf
     rcases fac_more.1 hf with h1 | h1
     ·exact g1 h1
     ·obtain ⟨h2,rfl⟩:=suf_snoc.1 h1
      exact hc ⟨rfl,oc_end_iff.1 (hxq.oc _ (oc_end h2))⟩ }
end
structure Nd where
 len:Nat
 link:Int
 fin:Nat
 edge:Int
structure Eg where
 c:UInt8
 tg:Nat
 nx:Int
def nd (N:List Nd) (v:Nat):Nd:=(N[v]?).getD ⟨0,0,0,-1⟩
def Chain (E:List Eg):Int->List (Nat × UInt8 × Nat)->Prop
 | e,[]=>e = -1
 | e,x :: L=>e=((x.1:Nat):Int)/\∃ nx,E[x.1]? = some ⟨x.2.1,x.2.2,nx⟩/\Chain E nx L
def updT (T:Nat->List (Nat × UInt8 × Nat)) (v:Nat) (L:List (Nat × UInt8 × Nat)):Nat->List (Nat × UInt8 × Nat):=fun k=>if k=v then L else T k
def cntT (T:Nat->List (Nat × UInt8 × Nat)):Nat->Nat
 | 0=>0
 | n + 1=>cntT T n + (T n).length
structure Ixr (N:List Nd) (E:List Eg) (T:Nat->List (Nat × UInt8 × Nat)):Prop where
 ch:∀ v,v < N.length->Chain E (nd N v).edge (T v)
 ltr:∀ v,v < N.length->((T v).map (·.2.1)).Nodup
 own:∀ u v,u < N.length->v < N.length->∀ x ∈ T u,∀ y ∈ T v,x.1=y.1->u=v
 cnt:E.length=cntT T N.length
def trU (T:Nat->List (Nat × UInt8 × Nat)) (v:Nat) (d:UInt8):Option Nat:=((T v).find? (fun x=>x.2.1 == d)).map (·.2.2)
theorem nd_set {N:List Nd} {v:Nat} (x:Nd) (hv:v < N.length) (u:Nat):nd (N.set v x) u=if u=v then x else nd N u:=by
 unfold nd
 rw [List.getElem?_set]
 by_cases e:v=u
 ·subst e; simp [hv]
 ·rw [if_neg e,if_neg (fun h=>e h.symm)]
theorem nd_push {N:List Nd} (x:Nd) {u:Nat} (hu:u<=N.length):nd (N ++ [x]) u=if u=N.length then x else nd N u:=by
 unfold nd
 by_cases e:u=N.length
 ·subst e; simp
 ·rw [if_neg e,List.getElem?_append_left (by omega)]
theorem nd_at {N:List Nd} {v:Nat} (h:v < N.length):nd N v=N[v]:=by unfold nd; rw [List.getElem?_eq_getElem h]; rfl
theorem Chain.idx {E:List Eg}:∀ {L:List (Nat × UInt8 × Nat)} {e:Int},Chain E e L->∀ x ∈ L,∃ nx,E[x.1]? = some ⟨x.2.1,x.2.2,nx⟩
 | [],e,h,x,hx=>by simp at hx
 | y :: L,e,⟨_,nx,h1,h2⟩,x,hx=>by
  rcases List.mem_cons.1 hx with rfl | hx
  ·exact ⟨nx,h1⟩
  ·exact h2.idx x hx
theorem Chain.lt {E:List Eg} {L:List (Nat × UInt8 × Nat)} {e:Int} (h:Chain E e L) {x:Nat × UInt8 × Nat} (hx:x ∈ L):x.1 < E.length:=by
 obtain ⟨nx,h1⟩:=h.idx x hx
 exact (List.getElem?_eq_some_iff.1 h1).1
theorem Chain.push {E:List Eg} (y:Eg):∀ {L:List (Nat × UInt8 × Nat)} {e:Int},Chain E e L->Chain (E ++ [y]) e L
 | [],e,h=>h
 | x :: L,e,⟨h0,nx,h1,h2⟩=>⟨h0,nx,by rw [List.getElem?_append_left (List.getElem?_eq_some_iff.1 h1).1]; exact h1,h2.push y⟩
def turnT (i t:Nat) (x:Nat × UInt8 × Nat):Nat × UInt8 × Nat:=if x.1=i then (x.1,x.2.1,t) else x
theorem turnT_1 (i t:Nat) (x:Nat × UInt8 × Nat):(turnT i t x).1=x.1:=by unfold turnT; split <;> rfl
theorem turnT_2 (i t:Nat) (x:Nat × UInt8 × Nat):(turnT i t x).2.1=x.2.1:=by unfold turnT; split <;> rfl
theorem Chain.turn {E:List Eg} {i t:Nat} {c:UInt8} {a:Nat} {x0:Int} (hi:E[i]? = some ⟨c,a,x0⟩):∀ {L:List (Nat × UInt8 × Nat)} {e:Int},Chain E e L->Chain (E.set i ⟨c,t,x0⟩) e (L.map (turnT i t))
 | [],e,h=>h
 | x :: L,e,⟨h0,nx,h1,h2⟩=>by
  rw [List.map_cons]
  refine ⟨by rw [turnT_1]; exact h0,nx,?_,h2.turn hi⟩
  rw [turnT_1,turnT_2,List.getElem?_set]
  unfold turnT
  by_cases e:x.1=i
  ·rw [if_pos e,if_pos e.symm,if_pos (List.getElem?_eq_some_iff.1 hi).1]
   rw [e,hi] at h1
   cases h1
   rfl
  ·rw [if_neg (fun e2=>e e2.symm),if_neg e]
   exact h1
theorem cnt_upd {T:Nat->List (Nat × UInt8 × Nat)} {v:Nat} {L:List (Nat × UInt8 × Nat)}:∀ (n:Nat),n<=v->cntT (updT T v L) n=cntT T n
 | 0,_=>rfl
 | n + 1,h=>by rw [cntT,cntT,cnt_upd n (by omega)]; unfold updT; rw [if_neg (by omega)]
theorem cnt_add {T:Nat->List (Nat × UInt8 × Nat)} {v:Nat} {x:Nat × UInt8 × Nat}:∀ (n:Nat),v < n->cntT (updT T v (x :: T v)) n=cntT T n + 1
 | 0,h=>by omega
 | n + 1,h=>by
  rw [cntT,cntT]
  by_cases e:v=n
  ·subst e; rw [cnt_upd v (Nat.le_refl _)]; simp [updT]; omega
  ·rw [cnt_add n (by omega)]
   have:updT T v (x :: T v) n=T n:=by unfold updT; rw [if_neg (by omega)]
   rw [this]; omega
theorem cnt_map {T T':Nat->List (Nat × UInt8 × Nat)} (h:∀ v,(T' v).length=(T v).length):∀ n,cntT T' n=cntT T n
 | 0=>rfl
 | n + 1=>by rw [cntT,cntT,cnt_map h n,h n]
theorem letters_le {l:List UInt8} (h:l.Nodup):l.length<=256:=by
 have h1:(l.map UInt8.toNat).Nodup:=by
  unfold List.Nodup
  rw [List.pairwise_map]
  exact List.Pairwise.imp (fun hne e=>hne (UInt8.toNat_inj.1 e)) h
 have h2:(l.map UInt8.toNat) ⊆ List.range 256:=fun x hx=>by
  obtain ⟨y,_,rfl⟩:=List.mem_map.1 hx
  exact List.mem_range.2 (by have:=y.toNat_lt; omega)
 have:=h1.length_le_of_subset h2
 simpa using this
theorem cnt_le {T:Nat->List (Nat × UInt8 × Nat)}:∀ (n:Nat),(∀ v,v < n->((T v).map (·.2.1)).Nodup)->cntT T n<=256 * n
 | 0,_=>by simp [cntT]
 | n + 1,h=>by
  have h1:=letters_le (h n (by omega))
  have h2:=cnt_le n (fun v hv=>h v (by omega))
  rw [List.length_map] at h1
  rw [cntT]; omega
theorem Ixr.elen {N:List Nd} {E:List Eg} {T:Nat->List (Nat × UInt8 × Nat)} (h:Ixr N E T):E.length<=256 * N.length:=by
 rw [h.cnt]; exact cnt_le _ h.ltr
theorem Ixr.start:Ixr [⟨0,-1,0,-1⟩] [] (fun _=>[]):=
 ⟨fun v h=>by
  simp only [List.length_singleton,Nat.lt_one_iff] at h
  subst h
  rfl,fun v h=>List.nodup_nil,fun u v _ _ x hx=>by simp at hx,rfl⟩
theorem Ixr.add {N:List Nd} {E:List Eg} {T:Nat->List (Nat × UInt8 × Nat)} (h:Ixr N E T) {v:Nat} (hv:v < N.length) {c:UInt8} (t:Nat) (hc:c ∉ (T v).map (·.2.1)) :
  Ixr (N.set v { nd N v with edge:=((E.length:Nat):Int) }) (E ++ [⟨c,t,(nd N v).edge⟩]) (updT T v ((E.length,c,t) :: T v)):=by
 refine ⟨fun u hu=>?_,fun u hu=>?_,fun a b ha hb x hx y hy e=>?_,?_⟩
 ·rw [List.length_set] at hu
  rw [nd_set _ hv]
  unfold updT
  by_cases e:u=v
  ·subst e
   rw [if_pos rfl,if_pos rfl]
   exact ⟨rfl,(nd N u).edge,by simp,(h.ch u hu).push _⟩
  ·rw [if_neg e,if_neg e]
   exact (h.ch u hu).push _
 ·rw [List.length_set] at hu
  unfold updT
  by_cases e:u=v
  ·subst e
   rw [if_pos rfl,List.map_cons,List.nodup_cons]
   exact ⟨hc,h.ltr u hu⟩
  ·rw [if_neg e]
   exact h.ltr u hu
 ·rw [List.length_set] at ha hb
  unfold updT at hx hy
  have key:∀ a,a < N.length->∀ x,x ∈ (if a=v then (E.length,c,t) :: T v else T a)->(x ∈ T a/\x.1 < E.length)\/(a=v/\x.1=E.length):=by
   intro a ha x hx
   by_cases ea:a=v
   ·subst ea
    rw [if_pos rfl] at hx
    rcases List.mem_cons.1 hx with rfl | hx
    ·exact .inr ⟨rfl,rfl⟩
    ·exact .inl ⟨hx,(h.ch a ha).lt hx⟩
   ·rw [if_neg ea] at hx
    exact .inl ⟨hx,(h.ch a ha).lt hx⟩
  rcases key a ha x hx with ⟨h1,h2⟩ | ⟨h1,h2⟩ <;> rcases key b hb y hy with ⟨h3,h4⟩ | ⟨h3,h4⟩
  ·exact h.own a b ha hb x h1 y h3 e
  ·omega
  ·omega
  ·rw [h1,h3]
 ·rw [List.length_append,List.length_set,cnt_add _ hv,h.cnt]; rfl
theorem tr_add (T:Nat->List (Nat × UInt8 × Nat)) (v i:Nat) (c:UInt8) (t u:Nat) (d:UInt8):trU (updT T v ((i,c,t) :: T v)) u d=if u=v/\d=c then some t else trU T u d:=by
 unfold trU updT
 by_cases e:u=v
 ·subst e
  rw [if_pos rfl,List.find?_cons]
  by_cases e2:c=d
  ·subst e2; simp
  ·have:(c == d)=false:=by simpa using e2
   simp only [this]
   rw [if_neg (fun h=>e2 h.2.symm)]
 ·rw [if_neg e,if_neg (fun h=>e h.1)]
theorem tr_no {T:Nat->List (Nat × UInt8 × Nat)} {v:Nat} {c:UInt8}:trU T v c=none ↔ c ∉ (T v).map (·.2.1):=by
 unfold trU
 rw [Option.map_eq_none_iff,List.find?_eq_none]
 simp only [List.mem_map,not_exists,not_and,beq_iff_eq]
theorem Ixr.push {N:List Nd} {E:List Eg} {T:Nat->List (Nat × UInt8 × Nat)} (h:Ixr N E T) (l:Nat) (k:Int) (f:Nat):Ixr (N ++ [⟨l,k,f,-1⟩]) E (updT T N.length []):=by
 refine ⟨fun u hu=>?_,fun u hu=>?_,fun a b ha hb x hx y hy e=>?_,?_⟩
 ·rw [List.length_append,List.length_singleton] at hu
  rw [nd_push _ (by omega)]
  unfold updT
  by_cases e:u=N.length
  ·rw [if_pos e,if_pos e]; rfl
  ·rw [if_neg e,if_neg e]; exact h.ch u (by omega)
 ·rw [List.length_append,List.length_singleton] at hu
  unfold updT
  by_cases e:u=N.length
  ·rw [if_pos e]; exact List.nodup_nil
  ·rw [if_neg e]; exact h.ltr u (by omega)
 ·rw [List.length_append,List.length_singleton] at ha hb
  unfold updT at hx hy
  by_cases ea:a=N.length
  ·rw [if_pos ea] at hx; simp at hx
  ·by_cases eb:b=N.length
   ·rw [if_pos eb] at hy; simp at hy
   ·rw [if_neg ea] at hx
    rw [if_neg eb] at hy
    exact h.own a b (by omega) (by omega) x hx y hy e
 ·rw [List.length_append,List.length_singleton,cntT,cnt_upd _ (Nat.le_refl _),h.cnt]; simp [updT]
theorem Ixr.link {N:List Nd} {E:List Eg} {T:Nat->List (Nat × UInt8 × Nat)} (h:Ixr N E T) {v:Nat} (hv:v < N.length) (k:Int):Ixr (N.set v { nd N v with link:=k }) E T:=by
 refine ⟨fun u hu=>?_,fun u hu=>?_,fun a b ha hb=>?_,?_⟩
 ·rw [List.length_set] at hu
  rw [nd_set _ hv]
  by_cases e:u=v
  ·subst e; rw [if_pos rfl]; exact h.ch u hu
  ·rw [if_neg e]; exact h.ch u hu
 ·rw [List.length_set] at hu; exact h.ltr u hu
 ·rw [List.length_set] at ha hb; exact h.own a b ha hb
 ·rw [List.length_set]; exact h.cnt
theorem Ixr.turn {N:List Nd} {E:List Eg} {T:Nat->List (Nat × UInt8 × Nat)} (h:Ixr N E T) {i a:Nat} {c:UInt8} {x0:Int} (hi:E[i]? = some ⟨c,a,x0⟩) (t:Nat):Ixr N (E.set i ⟨c,t,x0⟩) (fun v=>(T v).map (turnT i t)):=by
 refine ⟨fun u hu=>(h.ch u hu).turn hi,fun u hu=>?_,fun u v hu hv x hx y hy e=>?_,?_⟩
 ·rw [List.map_map]
  have:((fun x:Nat × UInt8 × Nat=>x.2.1) ∘ turnT i t)=fun x=>x.2.1:=by funext x; exact turnT_2 i t x
  rw [this]
  exact h.ltr u hu
 ·obtain ⟨x1,hx1,rfl⟩:=List.mem_map.1 hx
  obtain ⟨y1,hy1,rfl⟩:=List.mem_map.1 hy
  rw [turnT_1,turnT_1] at e
  exact h.own u v hu hv x1 hx1 y1 hy1 e
 ·rw [List.length_set,cnt_map (T:=T) (fun v=>List.length_map _),h.cnt]
theorem tr_turn {N:List Nd} {E:List Eg} {T:Nat->List (Nat × UInt8 × Nat)} (h:Ixr N E T) {p i a:Nat} (hp:p < N.length) {c:UInt8} (t:Nat) (hf:(T p).find? (fun x=>x.2.1 == c)=some (i,c,a)) (u:Nat) (hu:u < N.length) (d:UInt8) :
  trU (fun v=>(T v).map (turnT i t)) u d=if u=p/\d=c then some t else trU T u d:=by
 have hm:=List.mem_of_find?_eq_some hf
 have hi:=(h.ch p hp).idx _ hm
 unfold trU
 rw [List.find?_map]
 have:((fun x:Nat × UInt8 × Nat=>x.2.1 == d) ∘ turnT i t)=fun x=>x.2.1 == d:=by funext x; simp only [Function.comp,turnT_2]
 rw [this,Option.map_map]
 by_cases e:u=p/\d=c
 ·rw [if_pos e,e.1,e.2,hf]
  simp [turnT]
 ·rw [if_neg e]
  cases hq:(T u).find? (fun x=>x.2.1 == d) with
  | none=>rfl
  | some y=>
   have hy:=List.mem_of_find?_eq_some hq
   have hyd:y.2.1=d:=by simpa using List.find?_some hq
   simp only [Option.map_some,Function.comp]
   have hne:y.1 ≠ i:=fun e1=>by
    have eu:=h.own u p hu hp y hy _ hm e1
    obtain ⟨n1,g1⟩:=(h.ch u hu).idx y hy
    obtain ⟨n2,g2⟩:=hi
    rw [e1,g2] at g1
    cases g1
    exact e ⟨eu,hyd.symm⟩
   unfold turnT
   rw [if_neg hne]
theorem find_rev {L:List (UInt8 × Nat)} (h:(L.map (·.1)).Nodup) (d:UInt8):L.reverse.find? (fun x=>x.1 == d)=L.find? (fun x=>x.1 == d):=by
 cases hq:L.find? (fun x=>x.1 == d) with
 | none=>
  rw [List.find?_eq_none] at hq ⊢
  intro x hx
  exact hq x (List.mem_reverse.1 hx)
 | some y=>
  have hy:=List.mem_of_find?_eq_some hq
  have hyd:y.1=d:=by simpa using List.find?_some hq
  cases hr:L.reverse.find? (fun x=>x.1 == d) with
  | none=>exact absurd (List.find?_some hq) (List.find?_eq_none.1 hr y (List.mem_reverse.2 hy))
  | some z=>
   have hz:=List.mem_reverse.1 (List.mem_of_find?_eq_some hr)
   have hzd:z.1=d:=by simpa using List.find?_some hr
   obtain ⟨i,hi,rfl⟩:=List.getElem_of_mem hy
   obtain ⟨j,hj,rfl⟩:=List.getElem_of_mem hz
   have:(L.map (·.1))[i]'(by simpa using hi)=(L.map (·.1))[j]'(by simpa using hj):=by simp [hyd,hzd]
   have:=(List.getElem_inj h).1 this
   subst this
   rfl
abbrev Tmap:=Nat->List (Nat × UInt8 × Nat)
structure AutC (s:List UInt8) (N:List Nd) (E:List Eg) (T:Tmap) (W:Nat->List UInt8):Prop where
 ix:Ixr N E T
 au:Aut s N.length (fun v=>(nd N v).len) (fun v=>(nd N v).link) (fun v=>(nd N v).fin) (trU T) W
 ln:N.length<=2 * s.length + 1
theorem AutC.start:AutC [] [⟨0,-1,0,-1⟩] [] (fun _=>[]) (fun _=>[]):=
 ⟨Ixr.start,by
  have h:=Aut.start
  refine { pos:=by simp,w0:=rfl,len:=fun v hv=>?_,inj:=fun u v hu hv _=>?_,lm:=fun v hv=>lm_nil _,all:=fun w hw=>⟨0,by simp,(h.all w hw).choose_spec.2⟩,fin:=fun v hv=>?_,lk0:=rfl,lk:=fun v hv h0=>?_,trS:=fun v hv d u e=>(by cases e),trN:=fun v hv d _ hf=>?_ }
  ·simp only [List.length_singleton,Nat.lt_one_iff] at hv; subst hv; rfl
  ·simp only [List.length_singleton,Nat.lt_one_iff] at hu hv; omega
  ·simp only [List.length_singleton,Nat.lt_one_iff] at hv; subst hv
   exact ⟨⟨Nat.le_refl _,List.nil_suffix⟩,fun j _=>Nat.zero_le _⟩
  ·simp only [List.length_singleton,Nat.lt_one_iff] at hv; omega
  ·have:=hf.len; simp at this,by simp⟩
def Past (W:Nat->List UInt8) (p:Int) (v:Nat):Prop:=∀ k:Nat,p=((k:Nat):Int)->(W k).length < (W v).length
section
variable {s:List UInt8} {c:UInt8} {N0:List Nd} {E0:List Eg} {T0:Tmap} {W:Nat->List UInt8}
theorem past_next {n:Nat} {ln:Nat->Nat} {lk:Nat->Int} {fn:Nat->Nat} {tr:Nat->UInt8->Option Nat} (h:Aut s n ln lk fn tr W) {k v:Nat} (hk:k < n) (hs:W k <:+ s) (hv:v < n) (hvs:W v <:+ s):Past W (lk k) v ↔ Past W ((k:Nat):Int) v\/v=k:=by
 have hP:Past W ((k:Nat):Int) v ↔ (W k).length < (W v).length:=⟨fun h=>h k rfl,fun h j e=>by
  have:k=j:=by exact_mod_cast e
  subst this; exact h⟩
 rw [hP]
 by_cases e:v=k
 ·subst e
  refine ⟨fun _=>.inr rfl,fun _=>?_⟩
  by_cases h0:v=0
  ·subst h0
   intro j ej
   rw [h.lk0] at ej
   omega
  ·obtain ⟨u,h1,h2,h3,h4,_⟩:=h.lk v hk h0
   intro j ej
   rw [h1] at ej
   have:u=j:=by exact_mod_cast ej
   subst this
   have:=h3.length_le
   by_cases e:(W u).length=(W v).length
   ·exact absurd (suf_len h3 e) h4
   ·omega
 ·refine ⟨fun hp=>.inl ?_,fun hp=>?_⟩
  ·by_cases hl:(W v).length<=(W k).length
   ·exfalso
    have h5:=suf_two hvs hs hl
    have h6:W v ≠ W k:=fun e2=>e (h.inj _ _ hv hk e2)
    by_cases h0:k=0
    ·subst h0
     rw [h.w0] at h5 h6
     exact h6 (List.suffix_nil.1 h5)
    ·obtain ⟨u,h1,h2,h3,h4,h7⟩:=h.lk k hk h0
     have h8:=(h7 _ (h.lm v hv) h5 h6).length_le
     have:=hp u h1
     omega
   ·omega
  ·rcases hp with hp | hp
   ·intro j ej
    by_cases h0:k=0
    ·subst h0; rw [h.lk0] at ej; omega
    ·obtain ⟨u,h1,h2,h3,h4,h7⟩:=h.lk k hk h0
     rw [h1] at ej
     have:u=j:=by exact_mod_cast ej
     subst this
     have:=h3.length_le
     omega
   ·exact absurd hp e
theorem link_at {n:Nat} {ln:Nat->Nat} {lk:Nat->Int} {fn:Nat->Nat} {tr:Nat->UInt8->Option Nat} (h:Aut s n ln lk fn tr W) {k:Nat} (hk:k < n) (hs:W k <:+ s):lk k = -1\/∃ u:Nat,lk k=((u:Nat):Int)/\u < n/\W u <:+ s/\(W u).length < (W k).length:=by
 by_cases h0:k=0
 ·subst h0; exact .inl h.lk0
 ·obtain ⟨u,h1,h2,h3,h4,_⟩:=h.lk k hk h0
  refine .inr ⟨u,h1,h2,h3.trans hs,?_⟩
  have:=h3.length_le
  by_cases e:(W u).length=(W k).length
  ·exact absurd (suf_len h3 e) h4
  ·omega
structure Lp1 (s:List UInt8) (c:UInt8) (N0:List Nd) (T0:Tmap) (W:Nat->List UInt8) (N:List Nd) (E:List Eg) (T:Tmap) (p:Int):Prop where
 ix:Ixr N E T
 ln:N.length=N0.length + 1
 old:∀ v,v < N0.length->(nd N v).len=(nd N0 v).len/\(nd N v).link=(nd N0 v).link/\(nd N v).fin=(nd N0 v).fin
 new:nd N N0.length=⟨s.length + 1,0,s.length + 1,-1⟩
 nt:T N0.length=[]
 tr1:∀ v,v < N0.length->∀ d,d ≠ c\/¬ W v <:+ s\/¬ Past W p v->trU T v d=trU T0 v d
 tr2:∀ v,v < N0.length->W v <:+ s->Past W p v->trU T v c=some N0.length
 no:∀ v,v < N0.length->W v <:+ s->Past W p v->trU T0 v c=none
 pt:p = -1\/∃ k:Nat,p=((k:Nat):Int)/\k < N0.length/\W k <:+ s
theorem Lp1.start (h:AutC s N0 E0 T0 W) {last:Nat} (hl:last < N0.length) (hW:W last=s):Lp1 s c N0 T0 W (N0 ++ [⟨s.length + 1,0,s.length + 1,-1⟩]) E0 (updT T0 N0.length []) ((last:Nat):Int):=by
 have hp:∀ v,W v <:+ s->¬ Past W ((last:Nat):Int) v:=fun v hv hp=>by
  have h1:=hp last rfl
  have h2:=hv.length_le
  rw [hW] at h1
  omega
 refine ⟨h.ix.push _ _ _,by simp,fun v hv=>?_,?_,by simp [updT],fun v hv d _=>?_,fun v hv hs hpp=>absurd hpp (hp v hs),fun v hv hs hpp=>absurd hpp (hp v hs),.inr ⟨last,rfl,hl,by rw [hW]; exact List.suffix_refl _⟩⟩
 ·rw [nd_push _ (by omega),if_neg (by omega)]; exact ⟨rfl,rfl,rfl⟩
 ·rw [nd_push _ (Nat.le_refl _),if_pos rfl]
 ·unfold trU updT; rw [if_neg (by omega)]
theorem Lp1.same {N:List Nd} {E:List Eg} {T:Tmap} {k:Nat} (h:Lp1 s c N0 T0 W N E T ((k:Nat):Int)) (hk:k < N0.length) (d:UInt8):trU T k d=trU T0 k d:=h.tr1 k hk d (.inr (.inr (fun hp=>by have:=hp k rfl; omega)))
theorem Lp1.next {N:List Nd} {E:List Eg} {T:Tmap} {k:Nat} (ha:AutC s N0 E0 T0 W) (h:Lp1 s c N0 T0 W N E T ((k:Nat):Int)) (hk:k < N0.length) (hs:W k <:+ s) (hno:trU T k c=none) :
  Lp1 s c N0 T0 W (N.set k { nd N k with edge:=((E.length:Nat):Int) }) (E ++ [⟨c,N0.length,(nd N k).edge⟩]) (updT T k ((E.length,c,N0.length) :: T k)) (nd N k).link:=by
 have hkn:k < N.length:=by rw [h.ln]; omega
 have hl:(nd N k).link=(nd N0 k).link:=(h.old k hk).2.1
 have hpn:∀ v,v < N0.length->W v <:+ s->(Past W (nd N k).link v ↔ Past W ((k:Nat):Int) v\/v=k):=fun v hv hvs=>by rw [hl]; exact past_next ha.au hk hs hv hvs
 refine ⟨h.ix.add hkn _ (tr_no.1 hno),by rw [List.length_set,h.ln],fun v hv=>?_,?_,?_,fun v hv d hd=>?_,fun v hv hvs hp=>?_,fun v hv hvs hp=>?_,?_⟩
 ·rw [nd_set _ hkn]
  by_cases e:v=k
  ·subst e; rw [if_pos rfl]; exact h.old v hv
  ·rw [if_neg e]; exact h.old v hv
 ·rw [nd_set _ hkn,if_neg (by omega)]; exact h.new
 ·unfold updT; rw [if_neg (by omega)]; exact h.nt
 ·rw [tr_add]
  by_cases e:v=k/\d=c
  ·obtain ⟨rfl,rfl⟩:=e
   rcases hd with hd | hd | hd
   ·exact absurd rfl hd
   ·exact absurd hs hd
   ·exact absurd ((hpn v hv hs).2 (.inr rfl)) hd
  ·rw [if_neg e]
   refine h.tr1 v hv d ?_
   by_cases e1:d=c
   ·by_cases e2:W v <:+ s
    ·refine .inr (.inr (fun hp=>?_))
     rcases hd with hd | hd | hd
     ·exact hd e1
     ·exact hd e2
     ·exact hd ((hpn v hv e2).2 (.inl hp))
    ·exact .inr (.inl e2)
   ·exact .inl e1
 ·rw [tr_add]
  rcases (hpn v hv hvs).1 hp with h1 | rfl
  ·by_cases e:v=k/\c=c
   ·rw [if_pos e]
   ·rw [if_neg e]; exact h.tr2 v hv hvs h1
  ·rw [if_pos ⟨rfl,rfl⟩]
 ·rcases (hpn v hv hvs).1 hp with h1 | rfl
  ·exact h.no v hv hvs h1
  ·rw [<-h.same hv]; exact hno
 ·rw [hl]
  rcases link_at ha.au hk hs with h1 | ⟨u,h1,h2,h3,_⟩
  ·exact .inl h1
  ·exact .inr ⟨u,h1,h2,h3⟩
theorem Lp1.endAB {N N':List Nd} {E:List Eg} {T:Tmap} {p:Int} (ha:AutC s N0 E0 T0 W) (h:Lp1 s c N0 T0 W N E T p) {r:Nat} (hr:r < N0.length) (ht:Top s c (W r)) (hpa:∀ v,v < N0.length->W v <:+ s->trU T0 v c=none->Past W p v)
  (hx:Ixr N' E T) (hln:N'.length=N.length) (h1:∀ v,v < N0.length->nd N' v=nd N v) (h2:(nd N' N0.length).len=s.length + 1/\(nd N' N0.length).link=((r:Nat):Int)/\(nd N' N0.length).fin=s.length + 1) :
  AutC (s ++ [c]) N' E T (fun k=>if k=N0.length then s ++ [c] else W k):=by
 refine ⟨hx,?_,by have:=ha.ln; rw [hln,h.ln,List.length_append,List.length_singleton]; omega⟩
 rw [hln,h.ln]
 refine ha.au.stepA hr ht (fun v hv=>?_) h2.1 (fun v hv=>?_) h2.2.1 (fun v hv=>?_) h2.2.2 (fun v hv d hd=>h.tr1 v hv d ?_) (fun v hv hs hno=>h.tr2 v hv hs (hpa v hv hs hno)) (fun d=>?_)
 ·rw [h1 v hv]; exact (h.old v hv).1
 ·rw [h1 v hv]; exact (h.old v hv).2.1
 ·rw [h1 v hv]; exact (h.old v hv).2.2
 ·rcases hd with hd | hd | hd
  ·exact .inl hd
  ·exact .inr (.inl hd)
  ·by_cases e:W v <:+ s
   ·exact .inr (.inr (fun hp=>hd (h.no v hv e hp)))
   ·exact .inr (.inl e)
 ·unfold trU; rw [h.nt]; rfl
theorem Lp1.endA {N:List Nd} {E:List Eg} {T:Tmap} (ha:AutC s N0 E0 T0 W) (h:Lp1 s c N0 T0 W N E T (-1)):AutC (s ++ [c]) N E T (fun k=>if k=N0.length then s ++ [c] else W k):=by
 have hpt:∀ v,Past W (-1) v:=fun v k e=>by omega
 refine h.endAB ha (r:=0) ha.au.pos ?_ (fun v _ _ _=>hpt v) h.ix rfl (fun v hv=>rfl) ?_
 ·rw [ha.au.w0]; exact ha.au.ends ha.au.pos (fun v hv hs=>h.no v hv hs (hpt v))
 ·rw [h.new]; exact ⟨rfl,rfl,rfl⟩
theorem Lp1.top {N:List Nd} {E:List Eg} {T:Tmap} {k q:Nat} (ha:AutC s N0 E0 T0 W) (h:Lp1 s c N0 T0 W N E T ((k:Nat):Int)) (hk:k < N0.length) (hs:W k <:+ s) (hq:trU T k c=some q):trU T0 k c=some q/\q < N0.length/\Top s c (W k ++ [c])/\Ext s (W k ++ [c]) (W q)/\(nd N q).len=(W q).length/\(nd N k).len=(W k).length:=by
 have hq0:trU T0 k c=some q:=by rw [<-h.same hk]; exact hq
 obtain ⟨h1,h2⟩:=ha.au.trS k hk c q hq0
 exact ⟨hq0,h1,ha.au.tops hk hs hq0 (fun v hv hvs hl=>h.no v hv hvs (fun j e=>by
  have:k=j:=by exact_mod_cast e
  subst this; exact hl)),h2,by rw [(h.old q h1).1]; exact ha.au.len q h1,by rw [(h.old k hk).1]; exact ha.au.len k hk⟩
theorem Lp1.past {N:List Nd} {E:List Eg} {T:Tmap} {k q:Nat} (ha:AutC s N0 E0 T0 W) (h:Lp1 s c N0 T0 W N E T ((k:Nat):Int)) (hk:k < N0.length) (hs:W k <:+ s) (hq:trU T k c=some q) {v:Nat} (hv:v < N0.length) (hvs:W v <:+ s) (hno:trU T0 v c=none):Past W ((k:Nat):Int) v:=by
 intro j e
 have:k=j:=by exact_mod_cast e
 subst this
 obtain ⟨_,_,ht,hx,_⟩:=h.top ha hk hs hq
 by_cases hl:(W v).length<=(W k).length
 ·exact absurd (ht.fac.suf (suf_snoc.2 ⟨suf_two hvs hs hl,rfl⟩)) (ha.au.trN v hv c hno)
 ·omega
theorem Lp1.endB {N:List Nd} {E:List Eg} {T:Tmap} {k q:Nat} (ha:AutC s N0 E0 T0 W) (h:Lp1 s c N0 T0 W N E T ((k:Nat):Int)) (hk:k < N0.length) (hs:W k <:+ s) (hq:trU T k c=some q) (hl:(nd N q).len<=(nd N k).len + 1) :
  AutC (s ++ [c]) (N.set N0.length { nd N N0.length with link:=((q:Nat):Int) }) E T (fun k=>if k=N0.length then s ++ [c] else W k):=by
 obtain ⟨hq0,hqn,ht,hx,e1,e2⟩:=h.top ha hk hs hq
 have hn:N0.length < N.length:=by rw [h.ln]; omega
 have hW:W q=W k ++ [c]:=(suf_len hx.suf (by have:=hx.suf.length_le; simp only [List.length_append,List.length_singleton] at this ⊢; omega)).symm
 refine h.endAB ha hqn (by rw [hW]; exact ht) (fun v hv hvs hno=>h.past ha hk hs hq hv hvs hno) (h.ix.link hn _) (by rw [List.length_set]) (fun v hv=>?_) ?_
 ·rw [nd_set _ hn,if_neg (by omega)]
 ·rw [nd_set _ hn,if_pos rfl,h.new]; exact ⟨rfl,rfl,rfl⟩
structure Lp2 (N1:List Nd) (T1:Tmap) (q:Nat) (x:Nd) (N:List Nd) (E:List Eg) (T:Tmap) (e:Int) (D R:List (Nat × UInt8 × Nat)):Prop where
 ix:Ixr N E T
 ln:N.length=N1.length + 1
 old:∀ v,v < N1.length->nd N v=nd N1 v/\T v=T1 v
 new:(nd N N1.length).len=x.len/\(nd N N1.length).link=x.link/\(nd N N1.length).fin=x.fin
 cat:T1 q=D ++ R
 rest:Chain E e R
 done:(T N1.length).map (·.2)=(D.map (·.2)).reverse
theorem Lp2.start {N1:List Nd} {E1:List Eg} {T1:Tmap} {q:Nat} (h:Ixr N1 E1 T1) (hq:q < N1.length) (l:Nat) (k:Int) (f:Nat):Lp2 N1 T1 q ⟨l,k,f,-1⟩ (N1 ++ [⟨l,k,f,-1⟩]) E1 (updT T1 N1.length []) (nd N1 q).edge [] (T1 q):=by
 refine ⟨h.push _ _ _,by simp,fun v hv=>?_,?_,rfl,h.ch q hq,by simp [updT]⟩
 ·rw [nd_push _ (by omega),if_neg (by omega)]; exact ⟨rfl,by unfold updT; rw [if_neg (by omega)]⟩
 ·rw [nd_push _ (Nat.le_refl _),if_pos rfl]; exact ⟨rfl,rfl,rfl⟩
theorem Lp2.next {N1:List Nd} {T1:Tmap} {q:Nat} {x:Nd} {N:List Nd} {E:List Eg} {T:Tmap} {e:Int} {D R:List (Nat × UInt8 × Nat)} {y:Nat × UInt8 × Nat} (hl:((T1 q).map (·.2.1)).Nodup) (h:Lp2 N1 T1 q x N E T e D (y :: R)) {nx:Int} (hy:E[y.1]? = some ⟨y.2.1,y.2.2,nx⟩) :
  Lp2 N1 T1 q x (N.set N1.length { nd N N1.length with edge:=((E.length:Nat):Int) }) (E ++ [⟨y.2.1,y.2.2,(nd N N1.length).edge⟩]) (updT T N1.length ((E.length,y.2.1,y.2.2) :: T N1.length)) nx (D ++ [y]) R:=by
 have hn:N1.length < N.length:=by rw [h.ln]; omega
 obtain ⟨_,nx2,h1,h2⟩:=h.rest
 rw [hy] at h1
 cases h1
 have hno:y.2.1 ∉ (T N1.length).map (·.2.1):=by
  have e1:(T N1.length).map (·.2.1)=((T N1.length).map (·.2)).map (·.1):=by rw [List.map_map]; rfl
  rw [e1,h.done]
  rw [h.cat,List.map_append,List.nodup_append] at hl
  intro hm
  rw [<-List.map_reverse,List.mem_map] at hm
  obtain ⟨z,hz,hz2⟩:=hm
  obtain ⟨z1,hz1,rfl⟩:=List.mem_map.1 hz
  exact hl.2.2 z1.2.1 (List.mem_map.2 ⟨z1,List.mem_reverse.1 hz1,rfl⟩) y.2.1 (by simp) hz2
 refine ⟨h.ix.add hn _ hno,by rw [List.length_set,h.ln],fun v hv=>?_,?_,by rw [h.cat]; simp,h2.push _,?_⟩
 ·rw [nd_set _ hn,if_neg (by omega)]
  unfold updT
  rw [if_neg (by omega)]
  exact h.old v hv
 ·rw [nd_set _ hn,if_pos rfl]; exact h.new
 ·unfold updT
  rw [if_pos rfl,List.map_cons,h.done]
  simp
theorem Lp2.tr {N1:List Nd} {T1:Tmap} {q:Nat} {x:Nd} {N:List Nd} {E:List Eg} {T:Tmap} {e:Int} {D:List (Nat × UInt8 × Nat)} (hl:((T1 q).map (·.2.1)).Nodup) (h:Lp2 N1 T1 q x N E T e D []) (d:UInt8):trU T N1.length d=trU T1 q d:=by
 have hc:=h.cat
 rw [List.append_nil] at hc
 subst hc
 have e1:∀ L:List (Nat × UInt8 × Nat),(L.find? (fun x=>x.2.1 == d)).map (·.2.2)=((L.map (·.2)).find? (fun x=>x.1 == d)).map (·.2):=fun L=>by
  rw [List.find?_map,Option.map_map]; rfl
 unfold trU
 rw [e1,e1,h.done,find_rev]
 rw [List.map_map]
 exact hl
end
section
variable {s:List UInt8} {c:UInt8} {N0:List Nd} {E0:List Eg} {T0:Tmap} {W:Nat->List UInt8}
structure Lp3 (s:List UInt8) (c:UInt8) (n:Nat) (T0:Tmap) (W:Nat->List UInt8) (p0 q:Nat) (N3:List Nd) (T3:Tmap) (N:List Nd) (E:List Eg) (T:Tmap) (p:Int):Prop where
 ix:Ixr N E T
 ln:N=N3
 tr1:∀ v,v < n + 2->∀ d,¬ (v < n/\d=c/\W v <:+ s/\(W v).length<=(W p0).length/\Past W p v)->trU T v d=trU T3 v d
 tr2:∀ v,v < n->W v <:+ s->(W v).length<=(W p0).length->Past W p v->trU T v c=some (n + 1)/\trU T0 v c=some q
 pt:p = -1\/∃ k:Nat,p=((k:Nat):Int)/\k < n/\W k <:+ s/\(W k).length<=(W p0).length
structure Mid (s:List UInt8) (c:UInt8) (N0:List Nd) (T0:Tmap) (W:Nat->List UInt8) (p q:Nat) (N3:List Nd) (T3:Tmap):Prop where
 ln:N3.length=N0.length + 2
 len:∀ v,v < N0.length->(nd N3 v).len=(nd N0 v).len
 link:∀ v,v < N0.length->v ≠ q->(nd N3 v).link=(nd N0 v).link
 linkq:(nd N3 q).link=((N0.length + 1:Nat):Int)
 fin:∀ v,v < N0.length->(nd N3 v).fin=(nd N0 v).fin
 new:(nd N3 N0.length).len=s.length + 1/\(nd N3 N0.length).fin=s.length + 1
 part:(nd N3 (N0.length + 1)).len=(W p).length + 1/\(nd N3 (N0.length + 1)).link=(nd N0 q).link/\(nd N3 (N0.length + 1)).fin=(nd N0 q).fin
 tr1:∀ v,v < N0.length->∀ d,d ≠ c\/¬ W v <:+ s\/trU T0 v c ≠ none->trU T3 v d=trU T0 v d
 tr2:∀ v,v < N0.length->W v <:+ s->trU T0 v c=none->trU T3 v c=some N0.length
 trn:∀ d,trU T3 N0.length d=none
 trp1:∀ d,d ≠ c\/¬ W q <:+ s->trU T3 (N0.length + 1) d=trU T0 q d
 trp2:W q <:+ s->trU T3 (N0.length + 1) c=some N0.length
 long:(W q).length ≠ (W p).length + 1
 top:Top s c (W p ++ [c])
theorem Mid.make {N1 N2 N3:List Nd} {E1 E2 E3:List Eg} {T1 T2:Tmap} {e:Int} {D:List (Nat × UInt8 × Nat)} {k q:Nat} (ha:AutC s N0 E0 T0 W) (h:Lp1 s c N0 T0 W N1 E1 T1 ((k:Nat):Int)) (hk:k < N0.length) (hs:W k <:+ s) (hq:trU T1 k c=some q) (hl:¬ (nd N1 q).len<=(nd N1 k).len + 1)
  (h2:Lp2 N1 T1 q ⟨(nd N1 k).len + 1,(nd N1 q).link,(nd N1 q).fin,-1⟩ N2 E2 T2 e D []) (h3:N3=N2.set q { nd N2 q with link:=((N1.length:Nat):Int) }):Mid s c N0 T0 W k q N3 T2:=by
 obtain ⟨hq0,hqn,ht,hx,e1,e2⟩:=h.top ha hk hs hq
 have hq2:q < N2.length:=by rw [h2.ln,h.ln]; omega
 have hln:=h.ln
 have hnd:∀ v,v < N0.length->v ≠ q->nd N3 v=nd N1 v:=fun v hv hne=>by rw [h3,nd_set _ hq2,if_neg hne]; exact (h2.old v (by omega)).1
 have hndq:nd N3 q = { nd N1 q with link:=((N1.length:Nat):Int) }:=by rw [h3,nd_set _ hq2,if_pos rfl,(h2.old q (by omega)).1]
 have hT:∀ v,v < N1.length->∀ d,trU T2 v d=trU T1 v d:=fun v hv d=>by unfold trU; rw [(h2.old v hv).2]
 have hTp:∀ d,trU T2 N1.length d=trU T1 q d:=h2.tr (h.ix.ltr q (by omega))
 have hT1:∀ v,v < N0.length->∀ d,d ≠ c\/¬ W v <:+ s\/trU T0 v c ≠ none->trU T1 v d=trU T0 v d:=fun v hv d hd=>h.tr1 v hv d (by
  rcases hd with hd | hd | hd
  ·exact .inl hd
  ·exact .inr (.inl hd)
  ·by_cases e:W v <:+ s
   ·exact .inr (.inr (fun hp=>hd (h.no v hv e hp)))
   ·exact .inr (.inl e))
 have hT2:∀ v,v < N0.length->W v <:+ s->trU T0 v c=none->trU T1 v c=some N0.length:=fun v hv hvs hno=>h.tr2 v hv hvs (h.past ha hk hs hq hv hvs hno)
 have hqs:W q <:+ s->trU T0 q c=none:=fun hws=>by
  cases e:trU T0 q c with
  | none=>rfl
  | some u=>
   have h4:=(ht.top _ (suf_snoc.2 ⟨hws,rfl⟩) (ha.au.trS q hqn c u e).2.fac).length_le
   have h5:=hx.suf.length_le
   simp only [List.length_append,List.length_singleton] at h4 h5
   omega
 refine ⟨by rw [h3,List.length_set,h2.ln,hln],fun v hv=>?_,fun v hv hne=>?_,by rw [hndq,hln],fun v hv=>?_,?_,?_,fun v hv d hd=>?_,fun v hv hvs hno=>?_,fun d=>?_,fun d hd=>?_,fun hws=>?_,?_,ht⟩
 ·by_cases e:v=q
  ·subst e; rw [hndq]; exact (h.old v hv).1
  ·rw [hnd v hv e]; exact (h.old v hv).1
 ·rw [hnd v hv hne]; exact (h.old v hv).2.1
 ·by_cases e:v=q
  ·subst e; rw [hndq]; exact (h.old v hv).2.2
  ·rw [hnd v hv e]; exact (h.old v hv).2.2
 ·have:nd N3 N0.length=nd N1 N0.length:=by rw [h3,nd_set _ hq2,if_neg (by omega)]; exact (h2.old _ (by omega)).1
  rw [this,h.new]; exact ⟨rfl,rfl⟩
 ·have:nd N3 (N0.length + 1)=nd N2 N1.length:=by rw [h3,nd_set _ hq2,if_neg (by omega),hln]
  rw [this]
  obtain ⟨g1,g2,g3⟩:=h2.new
  exact ⟨by rw [g1]; simp only; rw [e2],by rw [g2]; exact (h.old q hqn).2.1,by rw [g3]; exact (h.old q hqn).2.2⟩
 ·rw [hT v (by omega)]; exact hT1 v hv d hd
 ·rw [hT v (by omega)]; exact hT2 v hv hvs hno
 ·rw [hT _ (by omega)]; unfold trU; rw [h.nt]; rfl
 ·rw [<-hln,hTp]
  refine hT1 q hqn d ?_
  rcases hd with hd | hd
  ·exact .inl hd
  ·exact .inr (.inl hd)
 ·rw [<-hln,hTp]; exact hT2 q hqn hws (hqs hws)
 ·omega
theorem Lp3.start {N3:List Nd} {E3:List Eg} {T3:Tmap} {n k q:Nat} (hx:Ixr N3 E3 T3) (hk:k < n) (hs:W k <:+ s):Lp3 s c n T0 W k q N3 T3 N3 E3 T3 ((k:Nat):Int):=
 ⟨hx,rfl,fun v hv d _=>rfl,fun v hv hvs hl hp=>by have:=hp k rfl; omega,.inr ⟨k,rfl,hk,hs,Nat.le_refl _⟩⟩
theorem Lp3.same {N3:List Nd} {T3:Tmap} {N:List Nd} {E:List Eg} {T:Tmap} {n k p0 q:Nat} (h:Lp3 s c n T0 W p0 q N3 T3 N E T ((k:Nat):Int)) (hk:k < n) (d:UInt8):trU T k d=trU T3 k d:=h.tr1 k (by omega) d (fun hp=>by have:=hp.2.2.2.2 k rfl; omega)
theorem Lp3.next {N3:List Nd} {T3:Tmap} {N:List Nd} {E:List Eg} {T:Tmap} {k p0 q i:Nat} {x0:Int} (ha:AutC s N0 E0 T0 W) (hm:Mid s c N0 T0 W p0 q N3 T3) (hp0:p0 < N0.length) (hq0:trU T0 p0 c=some q) (h:Lp3 s c N0.length T0 W p0 q N3 T3 N E T ((k:Nat):Int)) (hk:k < N0.length) (hs:W k <:+ s) (hkl:(W k).length<=(W p0).length)
  (hf:(T k).find? (fun x=>x.2.1 == c)=some (i,c,q)) (hi:E[i]? = some ⟨c,q,x0⟩) :
  Lp3 s c N0.length T0 W p0 q N3 T3 N (E.set i ⟨c,N0.length + 1,x0⟩) (fun v=>(T v).map (turnT i (N0.length + 1))) (nd N0 k).link:=by
 have hkn:k < N.length:=by rw [h.ln,hm.ln]; omega
 have htr:=fun u (hu:u < N.length) d=>tr_turn h.ix hkn (N0.length + 1) hf u hu d
 have hpn:∀ v,v < N0.length->W v <:+ s->(Past W (nd N0 k).link v ↔ Past W ((k:Nat):Int) v\/v=k):=fun v hv hvs=>past_next ha.au hk hs hv hvs
 have hfull:=hm.ln
 have htk:trU T k c=some q:=by unfold trU; rw [hf]; rfl
 have hlno:∀ u,trU T3 k c=some u->u ≠ N0.length->trU T0 k c=some u:=fun u hu hne=>by
  cases e:trU T0 k c with
  | none=>
   rw [hm.tr2 k hk hs e] at hu
   cases hu
   exact absurd rfl hne
  | some u2=>
   rw [hm.tr1 k hk c (.inr (.inr (by rw [e]; simp))),e] at hu
   exact hu
 have hqn:=(ha.au.trS p0 hp0 c q hq0).1
 have htk0:trU T0 k c=some q:=hlno q (by rw [<-h.same hk]; exact htk) (by omega)
 refine ⟨h.ix.turn hi _,h.ln,fun v hv d hd=>?_,fun v hv hvs hl hp=>?_,?_⟩
 ·rw [htr v (by rw [h.ln,hfull]; exact hv)]
  by_cases e:v=k/\d=c
  ·obtain ⟨rfl,rfl⟩:=e
   exact absurd ⟨hk,rfl,hs,hkl,(hpn v hk hs).2 (.inr rfl)⟩ hd
  ·rw [if_neg e]
   exact h.tr1 v hv d (fun ⟨a1,a2,a3,a4,a5⟩=>hd ⟨a1,a2,a3,a4,(hpn v a1 a3).2 (.inl a5)⟩)
 ·rw [htr v (by rw [h.ln,hfull]; omega)]
  rcases (hpn v hv hvs).1 hp with h1 | rfl
  ·by_cases e:v=k/\c=c
   ·rw [if_pos e,e.1]; exact ⟨rfl,htk0⟩
   ·rw [if_neg e]; exact h.tr2 v hv hvs hl h1
  ·rw [if_pos ⟨rfl,rfl⟩]; exact ⟨rfl,htk0⟩
 ·rcases link_at ha.au hk hs with h1 | ⟨u,h1,h2,h3,h4⟩
  ·exact .inl h1
  ·exact .inr ⟨u,h1,h2,h3,by omega⟩
theorem Lp3.done {N3:List Nd} {T3:Tmap} {N:List Nd} {E:List Eg} {T:Tmap} {p:Int} {p0 q:Nat} (ha:AutC s N0 E0 T0 W) (hm:Mid s c N0 T0 W p0 q N3 T3) (hp0:p0 < N0.length) (hs0:W p0 <:+ s) (hq0:trU T0 p0 c=some q) (h:Lp3 s c N0.length T0 W p0 q N3 T3 N E T p)
  (he:p = -1\/∃ k:Nat,p=((k:Nat):Int)/\k < N0.length/\W k <:+ s/\(W k).length<=(W p0).length/\trU T k c ≠ some q) :
  ∀ v,v < N0.length->W v <:+ s->trU T0 v c=some q->trU T v c=some (N0.length + 1):=by
 intro v hv hvs hvq
 obtain ⟨hqn,hxq⟩:=ha.au.trS p0 hp0 c q hq0
 have hx:=(ha.au.trS v hv c q hvq).2
 have hvl:(W v).length<=(W p0).length:=by
  by_cases hl:(W v).length<=(W p0).length
  ·exact hl
  -- a longer one would be the longest
  ·exfalso
   have h1:W p0 ++ [c] <:+ W v ++ [c]:=suf_snoc.2 ⟨suf_two hs0 hvs (by omega),rfl⟩
   have h5:=hm.long
   -- the letter behind the longer end is known too
   cases e:trU T0 v c with
   | none=>rw [e] at hvq; cases hvq
   | some u=>
    exact hl (by
     have h6:∀ x,x <:+ s ++ [c]->Fac s x->x.length<=(W p0).length + 1:=fun x hx1 hx2=>by
      have:=hm.top.top x hx1 hx2
      simpa using this.length_le
     have:=h6 (W v ++ [c]) (suf_snoc.2 ⟨hvs,rfl⟩) hx.fac
     simp at this
     omega)
 have hpast:Past W p v:=by
  rcases he with rfl | ⟨k,rfl,hk,hks,hkl,hkq⟩
  ·intro j e; omega
  ·intro j e
   have:k=j:=by exact_mod_cast e
   subst this
   by_cases hl:(W k).length < (W v).length
   ·exact hl
   ·exfalso
    apply hkq
    have h1:W v ++ [c] <:+ W k ++ [c]:=suf_snoc.2 ⟨suf_two hvs hks (by omega),rfl⟩
    have h2:W k ++ [c] <:+ W q:=(suf_snoc.2 ⟨suf_two hks hs0 hkl,rfl⟩).trans hxq.suf
    have h3:=ext_mid hx h1 h2
    obtain ⟨u,g1,g2,g3⟩:=ha.au.fac_tr hk h3.fac
    have:u=q:=ha.au.inj _ _ g2 hqn (ext_uniq g3 h3)
    subst this
    rw [h.same hk,hm.tr1 k hk c (.inr (.inr (by rw [g1]; simp)))]
    exact g1
 exact (h.tr2 v hv hvs hvl hpast).1
theorem Lp3.endC {N3:List Nd} {T3:Tmap} {N:List Nd} {E:List Eg} {T:Tmap} {p:Int} {p0 q:Nat} (ha:AutC s N0 E0 T0 W) (hm:Mid s c N0 T0 W p0 q N3 T3) (hp0:p0 < N0.length) (hs0:W p0 <:+ s) (hq0:trU T0 p0 c=some q) (h:Lp3 s c N0.length T0 W p0 q N3 T3 N E T p)
  (he:p = -1\/∃ k:Nat,p=((k:Nat):Int)/\k < N0.length/\W k <:+ s/\(W k).length<=(W p0).length/\trU T k c ≠ some q) :
  AutC (s ++ [c]) (N.set N0.length { nd N N0.length with link:=((N0.length + 1:Nat):Int) }) E T (fun k=>if k=N0.length then s ++ [c] else if k=N0.length + 1 then W p0 ++ [c] else W k):=by
 have hd:=h.done ha hm hp0 hs0 hq0 he
 have hln:N.length=N0.length + 2:=by rw [h.ln,hm.ln]
 have hn:N0.length < N.length:=by omega
 have hqn:=(ha.au.trS p0 hp0 c q hq0).1
 have e3:=h.ln
 have hnd:∀ v,v ≠ N0.length->nd (N.set N0.length { nd N N0.length with link:=((N0.length + 1:Nat):Int) }) v=nd N3 v:=fun v hv=>by rw [nd_set _ hn,if_neg hv,e3]
 have hnn:nd (N.set N0.length { nd N N0.length with link:=((N0.length + 1:Nat):Int) }) N0.length = { nd N3 N0.length with link:=((N0.length + 1:Nat):Int) }:=by rw [nd_set _ hn,if_pos rfl,e3]
 have hT:∀ v,v < N0.length + 2->∀ d,¬ (v < N0.length/\d=c/\W v <:+ s/\trU T0 v c=some q)->trU T v d=trU T3 v d:=fun v hv d hx=>by
  by_cases e:v < N0.length/\d=c/\W v <:+ s/\(W v).length<=(W p0).length/\Past W p v
  ·obtain ⟨a1,a2,a3,a4,a5⟩:=e
   exact absurd ⟨a1,a2,a3,(h.tr2 v a1 a3 a4 a5).2⟩ hx
  ·exact h.tr1 v hv d e
 have hlp:(nd N3 (N0.length + 1)).len=(nd N0 p0).len + 1:=by rw [hm.part.1]; have:=ha.au.len p0 hp0; rw [<-this]
 refine ⟨h.ix.link hn _,?_,by have:=ha.ln; rw [List.length_set,hln,List.length_append,List.length_singleton]; omega⟩
 rw [List.length_set,hln]
 refine ha.au.stepC hp0 hq0 hm.top hm.long (fun v hv=>?_) ?_ ?_ (fun v hv hne=>?_) ?_ ?_ ?_ (fun v hv=>?_) ?_ ?_ (fun v hv d hx=>?_) (fun v hv hvs hno=>?_) (fun v hv hvs hvq=>hd v hv hvs hvq) (fun d=>?_) (fun d hx=>?_) (fun hws=>?_)
 ·rw [hnd v (by omega)]; exact hm.len v hv
 ·rw [hnn]; exact hm.new.1
 ·rw [hnd _ (by omega)]; exact hlp
 ·rw [hnd v (by omega)]; exact hm.link v hv hne
 ·rw [hnn]
 ·rw [hnd q (by omega)]; exact hm.linkq
 ·rw [hnd _ (by omega)]; exact hm.part.2.1
 ·rw [hnd v (by omega)]; exact hm.fin v hv
 ·rw [hnn]; exact hm.new.2
 ·rw [hnd _ (by omega)]; exact hm.part.2.2
 ·rw [hT v (by omega) d (fun ⟨_,a2,a3,a4⟩=>by
   rcases hx with hx | hx | hx
   ·exact hx a2
   ·exact hx a3
   ·exact hx.2 a4)]
  refine hm.tr1 v hv d ?_
  rcases hx with hx | hx | hx
  ·exact .inl hx
  ·exact .inr (.inl hx)
  ·exact .inr (.inr hx.1)
 ·rw [hT v (by omega) c (fun ⟨_,_,_,a4⟩=>by rw [hno] at a4; cases a4)]
  exact hm.tr2 v hv hvs hno
 ·rw [hT _ (by omega) d (fun ⟨a1,_⟩=>by omega)]; exact hm.trn d
 ·rw [hT _ (by omega) d (fun ⟨a1,_⟩=>by omega)]; exact hm.trp1 d hx
 ·rw [hT _ (by omega) c (fun ⟨a1,_⟩=>by omega)]; exact hm.trp2 hws
end
section
variable {s:List UInt8} {N:List Nd} {E:List Eg} {T:Tmap} {W:Nat->List UInt8}
def AtW (s:List UInt8) (W:Nat->List UInt8) (w:List UInt8) (v:Nat):Prop:=Ext s w (W v)
theorem AutC.at0 (h:AutC s N E T W):AtW s W [] 0:=by unfold AtW; rw [h.au.w0]; exact ext_lm (lm_nil s)
theorem AutC.atS (h:AutC s N E T W) {w:List UInt8} {v u:Nat} {d:UInt8} (hv:v < N.length) (ha:AtW s W w v) (hu:trU T v d=some u):u < N.length/\AtW s W (w ++ [d]) u:=by
 obtain ⟨h1,h2⟩:=h.au.trS v hv d u hu
 exact ⟨h1,ext_step ha h2⟩
theorem AutC.atN (h:AutC s N E T W) {w:List UInt8} {v:Nat} {d:UInt8} (hv:v < N.length) (ha:AtW s W w v) (hu:trU T v d=none):¬ Fac s (w ++ [d]):=ext_none ha (h.au.trN v hv d hu)
theorem AutC.fin (h:AutC s N E T W) {w:List UInt8} {v:Nat} (hv:v < N.length) (ha:AtW s W w v):Oc s w (nd N v).fin/\∀ j,Oc s w j->(nd N v).fin<=j:=by
 obtain ⟨h1,h2⟩:=h.au.fin v hv
 exact ⟨h1.suf ha.suf,fun j hj=>h2 j (ha.oc j hj)⟩
end
def lcp:List UInt8->List UInt8->Nat
 | x :: a,y :: b=>if x=y then lcp a b + 1 else 0
 | _,_=>0
theorem lcp_ge:∀ (n:Nat) (a b:List UInt8),n<=lcp a b ↔ n<=a.length/\n<=b.length/\a.take n=b.take n
 | 0,a,b=>by simp
 | n + 1,[],b=>by simp [lcp]
 | n + 1,x :: a,[]=>by simp [lcp]
 | n + 1,x :: a,y :: b=>by
  rw [lcp]
  by_cases e:x=y
  ·subst e
   rw [if_pos rfl]
   have:=lcp_ge n a b
   simp only [List.length_cons,List.take_succ_cons,List.cons.injEq,true_and,Nat.add_le_add_iff_right]
   exact this
  ·rw [if_neg e]
   simp only [List.take_succ_cons,List.cons.injEq]
   constructor
   ·intro h; omega
   ·rintro ⟨_,_,h,_⟩; exact absurd h e
def bestF (a y:List UInt8):Nat->Nat × Nat
 | 0=>(0,0)
 | m + 1=>if (bestF a y m).2 < lcp (a.drop m) y then (m,lcp (a.drop m) y) else bestF a y m
def bestM (a y:List UInt8):Nat × Nat:=bestF a y a.length
theorem oc_drop {a w:List UInt8} {i n:Nat} (hn:w.length=n):Oc a w (i + n) ↔ i + n<=a.length/\(a.drop i).take n=w:=by
 unfold Oc
 refine and_congr_right (fun h=>?_)
 have e:(a.take (i + n)).drop i=(a.drop i).take n:=by rw [List.drop_take]; congr 1; omega
 rw [<-e]
 constructor
 ·intro hs
  have:=List.suffix_iff_eq_drop.1 hs
  rw [List.length_take,hn,Nat.min_eq_left h,Nat.add_sub_cancel] at this
  exact this.symm
 ·intro h2
  rw [<-h2]
  exact List.drop_suffix _ _
theorem oc_lcp {a y:List UInt8} {i n:Nat} (hn:n<=y.length):Oc a (y.take n) (i + n) ↔ n<=lcp (a.drop i) y/\i + n<=a.length:=by
 rw [oc_drop (n:=n) (by rw [List.length_take]; omega),lcp_ge,List.length_drop]
 constructor
 ·rintro ⟨h1,h2⟩
  exact ⟨⟨by omega,hn,h2⟩,h1⟩
 ·rintro ⟨⟨_,_,h2⟩,h1⟩
  exact ⟨h1,h2⟩
theorem lcp_le (a b:List UInt8):lcp a b<=a.length/\lcp a b<=b.length:=by
 have:=(lcp_ge (lcp a b) a b).1 (Nat.le_refl _)
 exact ⟨this.1,this.2.1⟩
theorem bestF_law (a y:List UInt8):∀ m,(∀ i,i < m->lcp (a.drop i) y<=(bestF a y m).2)/\((bestF a y m).2=0->(bestF a y m).1=0)/\(0 < (bestF a y m).2->(bestF a y m).1 < m/\lcp (a.drop (bestF a y m).1) y=(bestF a y m).2/\∀ i,i < (bestF a y m).1->lcp (a.drop i) y < (bestF a y m).2)
 | 0=>⟨fun i h=>by omega,fun _=>rfl,fun h=>by simp [bestF] at h⟩
 | m + 1=>by
  obtain ⟨h1,h2,h3⟩:=bestF_law a y m
  rw [bestF]
  by_cases e:(bestF a y m).2 < lcp (a.drop m) y
  ·rw [if_pos e]
   refine ⟨fun i hi=>?_,fun h=>?_,fun _=>⟨by simp,rfl,fun i hi=>?_⟩⟩
   ·by_cases ei:i=m
    ·subst ei; exact Nat.le_refl _
    ·have:=h1 i (by omega)
     simp only; omega
   ·simp only at h; omega
   ·have:=h1 i hi
    simp only; omega
  ·rw [if_neg e]
   refine ⟨fun i hi=>?_,h2,fun h=>?_⟩
   ·by_cases ei:i=m
    ·subst ei; omega
    ·exact h1 i (by omega)
   ·obtain ⟨g1,g2,g3⟩:=h3 h
    exact ⟨by omega,g2,g3⟩
theorem best_law {a y:List UInt8} {n j:Nat} (hn:n<=y.length) (h1:Oc a (y.take n) j) (h2:∀ i,Oc a (y.take n) i->j<=i) (h3:n=y.length\/¬ Fac a (y.take (n + 1))):(bestM a y).2=n/\(0 < n->(bestM a y).1=j - n/\n<=j):=by
 obtain ⟨g1,g2,g3⟩:=bestF_law a y a.length
 have hlen:(y.take n).length=n:=by rw [List.length_take]; omega
 have hj:=h1.len
 rw [hlen] at hj
 obtain ⟨i,rfl⟩:∃ i,j=i + n:=⟨j - n,by omega⟩
 have hj1:=h1.1
 have hge:=(oc_lcp hn).1 h1
 have hle:(bestM a y).2<=n:=by
  by_cases e:(bestM a y).2<=n
  ·exact e
  exfalso
  obtain ⟨k1,k2,k3⟩:=g3 (by unfold bestM at e; omega)
  have k4:=(lcp_le (a.drop (bestF a y a.length).1) y)
  rw [k2,List.length_drop] at k4
  unfold bestM at e
  rcases h3 with h3 | h3
  ·omega
  ·exact h3 ⟨(bestF a y a.length).1 + (n + 1),(oc_lcp (by omega)).2 ⟨by omega,by omega⟩⟩
 have heq:(bestM a y).2=n:=by
  by_cases h0:n=0
  ·omega
  have:=g1 i (by omega)
  unfold bestM at hle ⊢
  omega
 refine ⟨heq,fun h0=>⟨?_,by omega⟩⟩
 obtain ⟨k1,k2,k3⟩:=g3 (by unfold bestM at heq; omega)
 unfold bestM at heq ⊢
 rw [Nat.add_sub_cancel]
 have k5:=lcp_le (a.drop (bestF a y a.length).1) y
 rw [k2,List.length_drop] at k5
 have k4:=h2 ((bestF a y a.length).1 + n) ((oc_lcp hn).2 ⟨by omega,by omega⟩)
 by_cases e:i < (bestF a y a.length).1
 ·have:=k3 i e
  omega
 ·omega
def addO (l:List Dop) (x:Dop):List Dop:=
 match l.getLast? with
 | none=>[x]
 | some y=>
  if x.len=0/\y.len=0 then l.dropLast ++ [⟨0,0,y.data ++ x.data⟩]
  else if 0 < x.len/\0 < y.len/\y.off + y.len=x.off then l.dropLast ++ [⟨y.off,y.len + x.len,[]⟩]
  else l ++ [x]
def nextO (a b:List UInt8) (k:Nat):Dop:=if 4<=(bestM a (b.drop k)).2 then ⟨(bestM a (b.drop k)).1,(bestM a (b.drop k)).2,[]⟩ else ⟨0,0,(b.drop k).take 1⟩
def diffGo (a b:List UInt8):Nat->Nat->List Dop->List Dop
 | 0,_,l=>l
 | f + 1,k,l=>if k < b.length then diffGo a b f (k + sizeO (nextO a b k)) (addO l (nextO a b k)) else l
def diffS (a b:List UInt8):List Dop:=diffGo a b b.length 0 []
theorem bestM_le (a y:List UInt8):(bestM a y).2<=y.length/\(bestM a y).1 + (bestM a y).2<=a.length:=by
 obtain ⟨g1,g2,g3⟩:=bestF_law a y a.length
 unfold bestM
 by_cases h:0 < (bestF a y a.length).2
 ·obtain ⟨k1,k2,k3⟩:=g3 h
  have:=lcp_le (a.drop (bestF a y a.length).1) y
  rw [k2,List.length_drop] at this
  omega
 ·have h0:(bestF a y a.length).2=0:=by omega
  rw [h0,g2 h0]; omega
theorem nextO_size {a b:List UInt8} {k:Nat} (hk:k < b.length):1<=sizeO (nextO a b k)/\k + sizeO (nextO a b k)<=b.length:=by
 have h:=(bestM_le a (b.drop k)).1
 rw [List.length_drop] at h
 unfold nextO
 split
 ·unfold sizeO
  simp only
  rw [if_pos (by omega)]; omega
 ·unfold sizeO
  simp only
  rw [if_neg (by omega),List.length_take,List.length_drop]; omega
def fitO (o:Dop):Prop:=(0 < o.len/\o.data=[])\/(o.len=0/\o.off=0/\o.data ≠ [])
theorem fit_copy {o:Dop} (h:fitO o):copyO o=true ↔ 0 < o.len:=by
 unfold copyO
 rcases h with ⟨h1,h2⟩ | ⟨h1,h2,h3⟩
 ·simp [h1,h2]
 ·simp [h1]
theorem fit_ins {o:Dop} (h:fitO o):insO o=true ↔ o.len=0:=by
 unfold insO
 rcases h with ⟨h1,h2⟩ | ⟨h1,h2,h3⟩
 ·simp [h2]; omega
 ·simp [h1,h2,h3]
theorem fit_of {o:Dop} (h:¬ (copyO o=false/\insO o=false)):fitO o:=by
 unfold copyO insO at h
 unfold fitO
 by_cases h1:0 < o.len <;> by_cases h2:o.data=[] <;> by_cases h3:o.off=0 <;> simp_all <;> omega
theorem fit_no {o:Dop} (h:fitO o):¬ (copyO o=false/\insO o=false):=by
 rintro ⟨h1,h2⟩
 by_cases e:o.len=0
 ·rw [(fit_ins h).2 e] at h2; cases h2
 ·rw [(fit_copy h).2 (by omega)] at h1; cases h1
structure GoodD (a out:List UInt8) (l:List Dop):Prop where
 fit:∀ o ∈ l,fitO o
 inr:∀ o ∈ l,0 < o.len->o.off + o.len<=a.length
 out:l.flatMap (outO a)=out
theorem GoodD.nil (a:List UInt8):GoodD a [] []:=⟨fun o h=>by simp at h,fun o h=>by simp at h,rfl⟩
theorem out_copy {a:List UInt8} {o:Dop} (h:fitO o) (hl:0 < o.len):outO a o=(a.drop o.off).take o.len:=by unfold outO; rw [if_pos ((fit_copy h).2 hl)]
theorem out_ins {a:List UInt8} {o:Dop} (h:o.len=0):outO a o=o.data:=by unfold outO copyO; rw [if_neg (by simp [h])]
theorem out_len {a:List UInt8} {o:Dop} (h:fitO o) (hi:0 < o.len->o.off + o.len<=a.length):(outO a o).length=sizeO o:=by
 unfold sizeO
 by_cases e:0 < o.len
 ·rw [out_copy h e,if_pos e,List.length_take,List.length_drop]
  have:=hi e
  omega
 ·rw [out_ins (by omega),if_neg e]
theorem GoodD.sum {a out:List UInt8} {l:List Dop} (h:GoodD a out l):(l.map sizeO).sum=out.length:=by
 obtain ⟨h1,h2,h3⟩:=h
 rw [<-h3]
 clear h3
 induction l with
 | nil=>rfl
 | cons o l ih=>
  rw [List.map_cons,List.sum_cons,List.flatMap_cons,List.length_append,out_len (h1 o (by simp)) (h2 o (by simp)),ih (fun x hx=>h1 x (by simp [hx])) (fun x hx=>h2 x (by simp [hx]))]
theorem take_add_drop (a:List UInt8) (i n m:Nat):(a.drop i).take n ++ (a.drop (i + n)).take m=(a.drop i).take (n + m):=by
 rw [List.take_add,List.drop_drop]
theorem GoodD.add {a out:List UInt8} {l:List Dop} {x:Dop} (h:GoodD a out l) (hx:fitO x) (hi:0 < x.len->x.off + x.len<=a.length):GoodD a (out ++ outO a x) (addO l x):=by
 obtain ⟨h1,h2,h3⟩:=h
 subst h3
 unfold addO
 rcases List.eq_nil_or_concat l with rfl | ⟨l',y,rfl⟩
 ·simp only [List.getLast?_nil,List.flatMap_nil,List.nil_append]
  exact ⟨fun o ho=>by rw [List.mem_singleton.1 ho]; exact hx,fun o ho=>by rw [List.mem_singleton.1 ho]; exact hi,by simp⟩
 ·rw [List.concat_eq_append] at *
  simp only [List.getLast?_append,List.getLast?_singleton,Option.some_or,List.dropLast_concat]
  have hy:=h1 y (by simp)
  have hyi:=h2 y (by simp)
  have hl1:∀ o ∈ l',fitO o:=fun o ho=>h1 o (by simp [ho])
  have hl2:∀ o ∈ l',0 < o.len->o.off + o.len<=a.length:=fun o ho=>h2 o (by simp [ho])
  have key:∀ z:Dop,fitO z->(0 < z.len->z.off + z.len<=a.length)->outO a z=outO a y ++ outO a x->GoodD a ((l' ++ [y]).flatMap (outO a) ++ outO a x) (l' ++ [z]):=fun z hz hzi e=>by
   refine ⟨fun o ho=>?_,fun o ho=>?_,?_⟩
   ·rcases List.mem_append.1 ho with ho | ho
    ·exact hl1 o ho
    ·rw [List.mem_singleton.1 ho]; exact hz
   ·rcases List.mem_append.1 ho with ho | ho
    ·exact hl2 o ho
    ·rw [List.mem_singleton.1 ho]; exact hzi
   ·rw [List.flatMap_append,List.flatMap_append,List.append_assoc]
    simp [e]
  by_cases c1:x.len=0/\y.len=0
  ·rw [if_pos c1]
   have hyd:y.data ≠ []:=by
    rcases hy with ⟨g,_⟩ | ⟨_,_,g⟩
    ·omega
    ·exact g
   refine key _ (.inr ⟨rfl,rfl,by simp [hyd]⟩) (fun e=>by simp at e) ?_
   rw [out_ins (o:=⟨0,0,y.data ++ x.data⟩) rfl,out_ins c1.1,out_ins c1.2]
  ·rw [if_neg c1]
   by_cases c2:0 < x.len/\0 < y.len/\y.off + y.len=x.off
   ·rw [if_pos c2]
    obtain ⟨g1,g2,g3⟩:=c2
    have g4:=hi g1
    refine key _ (.inl ⟨by simp only; omega,rfl⟩) (fun _=>by simp only; omega) ?_
    rw [out_copy (o:=⟨y.off,y.len + x.len,[]⟩) (.inl ⟨by simp only; omega,rfl⟩) (by simp only; omega),out_copy hy g2,out_copy hx g1,<-g3,take_add_drop]
   ·rw [if_neg c2]
    refine ⟨fun o ho=>?_,fun o ho=>?_,?_⟩
    ·rcases List.mem_append.1 ho with ho | ho
     ·exact h1 o ho
     ·rw [List.mem_singleton.1 ho]; exact hx
    ·rcases List.mem_append.1 ho with ho | ho
     ·exact h2 o ho
     ·rw [List.mem_singleton.1 ho]; exact hi
    ·rw [List.flatMap_append]; simp
theorem chk_good {n:Nat}:∀ (l:List Dop) (p:Nat),(∀ o ∈ l,fitO o)->(∀ o ∈ l,0 < o.len->o.off + o.len<=n)->p + (l.map sizeO).sum<=65536->chkO n l p=0
 | [],p,_,_,_=>rfl
 | o :: l,p,h1,h2,h3=>by
  rw [List.map_cons,List.sum_cons] at h3
  rw [chkO,if_neg (fit_no (h1 o (by simp))),if_neg (fun e=>by
   have:=h2 o (by simp) ((fit_copy (h1 o (by simp))).1 e.1)
   omega),if_neg (by omega)]
  exact chk_good l _ (fun x hx=>h1 x (by simp [hx])) (fun x hx=>h2 x (by simp [hx])) (by omega)
theorem fit_size {o:Dop} (h:fitO o):1<=sizeO o:=by
 unfold sizeO
 rcases h with ⟨h1,h2⟩ | ⟨h1,h2,h3⟩
 ·rw [if_pos h1]; exact h1
 ·rw [if_neg (by omega)]; exact List.length_pos_iff.2 h3
theorem chk_fit {n:Nat}:∀ (l:List Dop) (p:Nat),chkO n l p=0->p<=65536->(∀ o ∈ l,fitO o/\sizeO o<=65536/\(0 < o.len->o.off + o.len<=n))/\p + l.length<=65536
 | [],p,_,hp=>⟨fun o h=>by simp at h,by simpa using hp⟩
 | o :: l,p,h,hp=>by
  rw [chkO] at h
  by_cases c1:copyO o=false/\insO o=false
  ·rw [if_pos c1] at h; simp at h
  rw [if_neg c1] at h
  by_cases c2:copyO o=true/\(n < o.len\/n < o.off + o.len)
  ·rw [if_pos c2] at h; simp at h
  rw [if_neg c2] at h
  by_cases c3:65536 < sizeO o + p
  ·rw [if_pos c3] at h; simp at h
  rw [if_neg c3] at h
  have hf:=fit_of c1
  have hs:=fit_size hf
  obtain ⟨g1,g2⟩:=chk_fit l _ h (by omega)
  refine ⟨fun x hx=>?_,by rw [List.length_cons]; omega⟩
  rcases List.mem_cons.1 hx with rfl | hx
  ·refine ⟨hf,by omega,fun e=>?_⟩
   by_cases e2:x.off + x.len<=n
   ·exact e2
   ·exact absurd ⟨(fit_copy hf).2 e,.inr (by omega)⟩ c2
  ·exact g1 x hx
theorem nextO_fit {a b:List UInt8} {k:Nat} (hk:k < b.length):fitO (nextO a b k)/\(0 < (nextO a b k).len->(nextO a b k).off + (nextO a b k).len<=a.length)/\b.take k ++ outO a (nextO a b k)=b.take (k + sizeO (nextO a b k)):=by
 have h:=bestM_le a (b.drop k)
 rw [List.length_drop] at h
 unfold nextO
 split
 ·rename_i h4
  have hf:fitO ⟨(bestM a (b.drop k)).1,(bestM a (b.drop k)).2,[]⟩:=.inl ⟨by simp only; omega,rfl⟩
  refine ⟨hf,fun _=>h.2,?_⟩
  rw [out_copy hf (by simp only; omega)]
  unfold sizeO
  simp only
  rw [if_pos (by omega),List.take_add]
  congr 1
  obtain ⟨g1,g2,g3⟩:=bestF_law a (b.drop k) a.length
  obtain ⟨k1,k2,k3⟩:=g3 (by unfold bestM at h4; omega)
  have k4:=((lcp_ge _ _ _).1 (Nat.le_of_eq k2.symm)).2.2
  unfold bestM
  exact k4
 ·have hd:(b.drop k).take 1 ≠ []:=fun e=>by
   have:=congrArg List.length e
   rw [List.length_take,List.length_drop,List.length_nil] at this
   omega
  refine ⟨.inr ⟨rfl,rfl,hd⟩,fun e=>by simp at e,?_⟩
  rw [out_ins rfl]
  unfold sizeO
  simp only
  rw [if_neg (by omega),List.take_add]
  congr 1
  rw [List.length_take,List.length_drop]
  congr 1
  omega
theorem diffGo_good {a b:List UInt8}:∀ (f k:Nat) {l:List Dop},GoodD a (b.take k) l->b.length<=k + f->GoodD a b (diffGo a b f k l)
 | 0,k,l,h,hf=>by rw [diffGo]; rwa [List.take_of_length_le (by omega)] at h
 | f + 1,k,l,h,hf=>by
  rw [diffGo]
  split
  ·rename_i hk
   obtain ⟨h1,h2,h3⟩:=nextO_fit (a:=a) hk
   have h4:=h.add h1 h2
   rw [h3] at h4
   have h5:=(nextO_size (a:=a) hk).1
   exact diffGo_good f _ h4 (by omega)
  ·rwa [List.take_of_length_le (by omega)] at h
theorem diff_good (a b:List UInt8):GoodD a b (diffS a b):=diffGo_good _ _ (GoodD.nil a) (by omega)
theorem diff_check {a b:List UInt8} {n:Nat} (hn:a.length<=n) (hn2:n<=65536) (hb:b.length<=65536):checkD (diffS a b) n=0:=by
 have h:=diff_good a b
 unfold checkD
 rw [if_neg (by omega)]
 exact chk_good _ _ h.fit (fun o ho e=>by have:=h.inr o ho e; omega) (by rw [h.sum]; omega)
theorem diff_apply {a b:List UInt8} (ha:a.length<=65536) (hb:b.length<=65536):applyD a (diffS a b)=(b,0):=by
 unfold applyD
 rw [if_neg (by rw [diff_check (Nat.le_refl _) ha hb]; simp),(diff_good a b).out]
theorem opS_enc {o:Dop} (h:fitO o) (h1:o.len<=1099511627776) (h2:o.off<=1099511627776) (h3:o.data.length<=65536) (r:List UInt8):opS (encO o ++ r)=some (o,(encO o).length):=by
 obtain ⟨off,len,data⟩:=o
 simp only at h1 h2 h3
 unfold opS encO
 simp only
 rw [List.append_assoc,Cw.getI_enc len h1]
 simp only [Int.toNat_natCast,List.drop_left]
 rw [if_neg (by simp)]
 by_cases e:0 < len
 ·rw [if_pos (by omega),if_pos ((fit_copy h).2 e),Cw.getI_enc off h2]
  simp only [Int.toNat_natCast]
  rw [if_neg (by simp),List.length_append]
  have:data=[]:=by
   rcases h with ⟨_,g⟩ | ⟨g,_⟩
   ·exact g
   ·simp only at g; omega
  rw [this]
 ·have hc:¬ copyO ⟨off,len,data⟩=true:=fun c=>e ((fit_copy h).1 c)
  rw [if_neg (by omega),if_neg hc]
  have e1:(putT data).1=Cw.enc data.length ++ data:=by unfold putT; rw [if_pos h3]
  rw [e1,getT_put h3]
  simp only [Int.toNat_natCast]
  rw [if_neg (by simp)]
  have g:len=0/\off=0:=by
   rcases h with ⟨g,_⟩ | ⟨g,g2,_⟩
   ·simp only at g; omega
   ·exact ⟨g,g2⟩
  rw [g.1,g.2]
  simp
theorem opsGo_enc:∀ (l acc:List Dop) (r:List UInt8),(∀ o ∈ l,fitO o/\o.len<=1099511627776/\o.off<=1099511627776/\o.data.length<=65536)->opsGo l.length (l.flatMap encO ++ r) acc=some (acc ++ l,r)
 | [],acc,r,_=>by simp [opsGo]
 | o :: l,acc,r,h=>by
  obtain ⟨h1,h2,h3,h4⟩:=h o (by simp)
  rw [List.length_cons,opsGo,List.flatMap_cons,List.append_assoc,opS_enc h1 h2 h3 h4]
  simp only [List.drop_left]
  rw [opsGo_enc l _ r (fun x hx=>h x (by simp [hx])),List.append_assoc]
  rfl
theorem decD_enc {l:List Dop} (hc:checkD l 65536=0):encL l=(Cw.enc l.length ++ l.flatMap encO,0)/\decD (encL l).1=(l,0):=by
 have he:encL l=(Cw.enc l.length ++ l.flatMap encO,0):=by unfold encL; rw [if_neg (by simp [hc])]
 refine ⟨he,?_⟩
 rw [he]
 simp only
 have h:=hc
 unfold checkD at h
 rw [if_neg (by omega)] at h
 obtain ⟨g1,g2⟩:=chk_fit l 0 h (by omega)
 have hs:∀ o ∈ l,fitO o/\o.len<=1099511627776/\o.off<=1099511627776/\o.data.length<=65536:=fun o ho=>by
  obtain ⟨a1,a2,a3⟩:=g1 o ho
  unfold sizeO at a2
  refine ⟨a1,?_⟩
  rcases a1 with ⟨b1,b2⟩ | ⟨b1,b2,b3⟩
  ·rw [if_pos b1] at a2
   have:=a3 b1
   rw [b2]; simp only [List.length_nil]; omega
  ·rw [if_neg (by omega)] at a2
   omega
 unfold decD
 rw [Cw.getI_enc l.length (by omega)]
 simp only [Int.toNat_natCast,List.drop_left]
 rw [if_neg (by simp)]
 have:=opsGo_enc l [] [] hs
 rw [List.append_nil] at this
 rw [this]
 simp [hc]
def jnF (st:List Dop × List UInt8):List Dop:=if st.2=[] then st.1 else st.1 ++ [⟨0,0,st.2⟩]
def jnC (l:List Dop) (o:Dop):List Dop:=
 match l.getLast? with
 | some y=>if copyO y=true/\y.off + y.len=o.off then l.dropLast ++ [⟨y.off,y.len + o.len,y.data⟩] else l ++ [o]
 | none=>l ++ [o]
def jnS (st:List Dop × List UInt8) (o:Dop):List Dop × List UInt8:=if insO o=true then (st.1,st.2 ++ o.data) else (jnC (jnF st) o,[])
def lastC (l:List Dop):Prop:=∀ y,l.getLast? = some y->copyO y=true
theorem lastC_nil:lastC []:=fun y h=>by simp at h
theorem jn_law {st:List Dop × List UInt8} {o:Dop} (hc:lastC st.1) (ho:fitO o):jnF (jnS st o)=addO (jnF st) o/\lastC (jnS st o).1:=by
 obtain ⟨l,x⟩:=st
 simp only at hc
 by_cases hi:o.len=0
 ·have ei:insO o=true:=(fit_ins ho).2 hi
  have od:o.data ≠ []/\o=⟨0,0,o.data⟩:=by
   obtain ⟨off,len,data⟩:=o
   rcases ho with ⟨g,_⟩ | ⟨g1,g2,g3⟩
   ·simp only at g hi; omega
   ·simp only at g1 g2 g3; subst g1; subst g2; exact ⟨g3,rfl⟩
  unfold jnS
  rw [if_pos ei]
  refine ⟨?_,hc⟩
  unfold jnF
  simp only
  rw [if_neg (by simp [od.1])]
  by_cases hx:x=[]
  ·subst hx
   rw [if_pos rfl]
   unfold addO
   cases hl:l.getLast? with
   | none=>
    rw [List.getLast?_eq_none_iff] at hl
    subst hl
    simp only [List.nil_append]
    rw [<-od.2]
   | some y=>
    have hy:=hc y hl
    have hy0:0 < y.len:=by unfold copyO at hy; simp at hy; exact hy.1
    simp only [List.nil_append]
    rw [if_neg (by omega),if_neg (by omega),<-od.2]
  ·rw [if_neg hx]
   unfold addO
   simp only [List.getLast?_append,List.getLast?_singleton,Option.some_or,List.dropLast_concat]
   rw [if_pos (by simp [hi])]
 ·have ei:¬ insO o=true:=fun e=>hi ((fit_ins ho).1 e)
  have oc:0 < o.len/\o.data=[]:=by
   rcases ho with g | ⟨g1,_⟩
   ·exact g
   ·exact absurd g1 hi
  have hoc:copyO o=true:=(fit_copy ho).2 oc.1
  unfold jnS
  rw [if_neg ei]
  have e1:jnF (jnC (jnF (l,x)) o,[])=jnC (jnF (l,x)) o:=by unfold jnF; rw [if_pos rfl]
  rw [e1]
  simp only
  have hlast:∀ y,(jnF (l,x)).getLast? = some y->(copyO y=true/\y.data=[]/\0 < y.len)\/(copyO y=false/\y.len=0):=fun y hy=>by
   unfold jnF at hy
   simp only at hy
   by_cases hx:x=[]
   ·rw [if_pos hx] at hy
    have h:=hc y hy
    have h2:=h
    unfold copyO at h2
    simp at h2
    exact .inl ⟨h,h2.2,h2.1⟩
   ·rw [if_neg hx] at hy
    simp only [List.getLast?_append,List.getLast?_singleton,Option.some_or] at hy
    cases hy
    exact .inr ⟨by simp [copyO],rfl⟩
  generalize jnF (l,x)=L at hlast
  unfold jnC addO
  cases hl:L.getLast? with
  | none=>
   rw [List.getLast?_eq_none_iff] at hl
   subst hl
   exact ⟨rfl,fun y hy=>by simp at hy; rw [<-hy]; exact hoc⟩
  | some y=>
   simp only
   rcases hlast y hl with ⟨g1,g2,g3⟩ | ⟨g1,g2⟩
   ·by_cases hadj:y.off + y.len=o.off
    ·rw [if_pos ⟨g1,hadj⟩,if_neg (fun e=>hi e.1),if_pos ⟨oc.1,g3,hadj⟩,g2]
     refine ⟨rfl,fun z hz=>?_⟩
     simp only [List.getLast?_append,List.getLast?_singleton,Option.some_or] at hz
     cases hz
     unfold copyO
     simp; omega
    ·rw [if_neg (fun e=>hadj e.2),if_neg (fun e=>hi e.1),if_neg (fun e=>hadj e.2.2)]
     refine ⟨rfl,fun z hz=>?_⟩
     simp only [List.getLast?_append,List.getLast?_singleton,Option.some_or] at hz
     cases hz
     exact hoc
   ·rw [if_neg (fun e=>by rw [g1] at e; cases e.1),if_neg (fun e=>hi e.1),if_neg (fun e=>by omega)]
    refine ⟨rfl,fun z hz=>?_⟩
    simp only [List.getLast?_append,List.getLast?_singleton,Option.some_or] at hz
    cases hz
    exact hoc
open Go.RowKit Go.Shelf
theorem applyD_bad {a:List UInt8} {l:List Dop} (h:checkD l a.length ≠ 0):applyD a l=([],checkD l a.length):=by unfold applyD; rw [if_pos h]
theorem applyD_ok {a:List UInt8} {l:List Dop} (h:checkD l a.length=0):applyD a l=(l.flatMap (outO a),0):=by unfold applyD; rw [if_neg (by simp [h])]
structure DFit (a:List UInt8) (l:List Dop):Prop where
 fit:∀ o ∈ l,fitO o
 inr:∀ o ∈ l,0 < o.len->o.off + o.len<=a.length
 siz:∀ k,((l.take k).flatMap (outO a)).length<=65536
 al:a.length<=65536
 ll:l.length<=65536
theorem chk_sum {n:Nat}:∀ (l:List Dop) (p:Nat),chkO n l p=0->p<=65536->p + (l.map sizeO).sum<=65536
 | [],p,_,hp=>by simpa using hp
 | o :: l,p,h,hp=>by
  rw [chkO] at h
  by_cases c1:copyO o=false/\insO o=false
  ·rw [if_pos c1] at h; simp at h
  rw [if_neg c1] at h
  by_cases c2:copyO o=true/\(n < o.len\/n < o.off + o.len)
  ·rw [if_pos c2] at h; simp at h
  rw [if_neg c2] at h
  by_cases c3:65536 < sizeO o + p
  ·rw [if_pos c3] at h; simp at h
  rw [if_neg c3] at h
  have:=chk_sum l _ h (by omega)
  rw [List.map_cons,List.sum_cons]
  omega
theorem check_small {n:Nat} {l:List Dop} (h:checkD l n=0):n<=65536/\chkO n l 0=0:=by
 unfold checkD at h
 by_cases e:65536 < n
 ·rw [if_pos e] at h; simp at h
 ·rw [if_neg e] at h; exact ⟨by omega,h⟩
theorem dfit_of {a:List UInt8} {l:List Dop} (h:checkD l a.length=0):DFit a l:=by
 obtain ⟨h1,h2⟩:=check_small h
 obtain ⟨g1,g2⟩:=chk_fit l 0 h2 (by omega)
 have g3:=chk_sum l 0 h2 (by omega)
 refine ⟨fun o ho=>(g1 o ho).1,fun o ho=>(g1 o ho).2.2,fun k=>?_,h1,by omega⟩
 have gd:GoodD a ((l.take k).flatMap (outO a)) (l.take k):=⟨fun o ho=>(g1 o (List.mem_of_mem_take ho)).1,fun o ho=>(g1 o (List.mem_of_mem_take ho)).2.2,rfl⟩
 rw [<-gd.sum]
 have hs:((l.take k).map sizeO).sum<=(l.map sizeO).sum:=by
  conv=>rhs; rw [<-List.take_append_drop k l,List.map_append,List.sum_append]
  omega
 omega
theorem dfit_ne {a:List UInt8} {l:List Dop} (h:DFit a l) (hl:0 < l.length):l.flatMap (outO a) ≠ []:=by
 cases l with
 | nil=>simp at hl
 | cons o l=>
  rw [List.flatMap_cons]
  intro e
  have h1:=congrArg List.length (List.append_eq_nil_iff.1 e).1
  rw [out_len (h.fit o (by simp)) (h.inr o (by simp)),List.length_nil] at h1
  have:=fit_size (h.fit o (by simp))
  omega
theorem flat_take {a:List UInt8} {l:List Dop} {k:Nat} (h:k < l.length):(l.take (k + 1)).flatMap (outO a)=(l.take k).flatMap (outO a) ++ outO a l[k]:=by
 rw [List.take_succ_eq_append_getElem h,List.flatMap_append]
 simp
theorem dapply_any (A:List UInt8) (a:Option Addr) (l:List Dop) (c:Nat) (w:World) (hl:GIn opCs 3 w.heap.size w a l) (hA:(A.length:Int)<=140737488355328) (hll:(l.length:Int)<=9223372036854775807) (hs:∀ o ∈ l,o.data.length<=1099511627776/\o.len<=1099511627776/\o.off<=1099511627776) :
  Calls Tryz.prog 127 #[.string ⟨A.toArray⟩,.slice a l.length c] w fun e w'=>e = .returned (.tuple #[.string ⟨(applyD A l).1.toArray⟩,.int .i64 (applyD A l).2])/\Below w.heap.size w w':=by
 obtain ⟨R,hR⟩:∃ R,R=applyD A l:=⟨_,rfl⟩
 rw [<-hR]
 have HBAD:Hid (checkD l A.length ≠ 0->R=([],checkD l A.length)):=hid (fun h=>hR.trans (applyD_bad h))
 have HOK:Hid (checkD l A.length=0->R=(l.flatMap (outO A),0)):=hid (fun h=>hR.trans (applyD_ok h))
 have HFT:Hid (checkD l A.length=0->DFit A l):=hid dfit_of
 have HC:=hid (dcheck_any a l c A.length w hl (by omega) hll hs)
 have hsz:=ba_len A
 obtain ⟨n,hn⟩:∃ n,n=A.length:=⟨_,rfl⟩
 rw [<-hn] at HC hsz
 obtain ⟨m,hm⟩:∃ m,m=l.length:=⟨_,rfl⟩
 rw [<-hm] at HC ⊢
 have HM:=hid hm
 have HL:=hid hl
 obtain ⟨ce,hce⟩:∃ ce,ce=checkD l A.length:=⟨_,rfl⟩
 rw [<-hce] at HBAD HOK HFT
 rw [hn,<-hce,<-hn] at HC
 have HNA:=hid hn
 clear hR hl hs hm hce hn
 by_cases hc0:ce=0
 case neg=>
  have hne:(ce != 0)=true:=by simpa using hc0
  have HR:=hid (HBAD.out hc0)
  clear HBAD HOK HFT hc0
  go_enter Tryz.func127,Tryz.ntmps127
  go_wp2_with fail
  (with_reducible refine (HC.out).mono ?_)
  rintro e u1 ⟨rfl,hb⟩
  have HB1:=hid hb
  clear hb HC
  go_wp2_with fail
  go_ret2
  rw [HR.out]
  exact ⟨rfl,HB1.out⟩
 case pos=>
 subst hc0
 have HR:=hid (HOK.out rfl)
 have HF:=hid (HFT.out rfl)
 clear HBAD HOK HFT
 go_enter Tryz.func127,Tryz.ntmps127
 go_wp2_with fail
 (with_reducible refine (HC.out).mono ?_)
 rintro e u1 ⟨rfl,hb⟩
 obtain ⟨b,hbk⟩:∃ b,b=u1.heap.size:=⟨_,rfl⟩
 obtain ⟨u2,hu2⟩:∃ u2,u2=u1.alloc (.cells #[.pointer none,.slice none 0 0] 125):=⟨_,rfl⟩
 have hb2:Below u1.heap.size u1 u2:=by rw [hu2]; exact (Below.refl _ _).alloc (Nat.le_refl _) _
 have hfr:u2.heap[b]? = some (.cells #[.pointer none,.slice none 0 0] 125 (0,0)):=by rw [hu2,hbk]; exact World.alloc_heap_new _ _
 have HFR:=hid hfr
 have HBS:=hid (BW.start (hb.trans (hb2.mono hb.size)) (by rw [hbk]; exact hb.size) hfr)
 have HWB:Hid (w.heap.size<=b):=hid (by rw [hbk]; exact hb.size)
 have HU2:=hid hu2
 have HBK:=hid hbk
 clear hb hb2 hfr HC hu2 hbk
 go_wp2_with fail
 rw [<-HU2.out,<-HBK.out]
 clear HU2 HBK
 go_loopw [19] (fun i wr=>∃ k:Nat,k<=m/\i = .int .i64 (k:Int)/\Hid (BW w u2 b ((l.take k).flatMap (outO A)) wr)/\Hid (k=0->wr=u2)) (fun i _=>m - (intOf i).toNat)
 case atStart=>exact ⟨0,by omega,rfl,HBS,hid (fun _=>rfl)⟩
 case round=>
  clear HBS
  obtain ⟨k,hk,rfl,HW,HZ⟩:=hrel
  by_cases hlt:k < m
  ·have hkn:(k:Int) < (m:Int):=by omega
   have h1:k < l.length:=by rw [<-HM.out]; exact hlt
   obtain ⟨b0,of0,haa,hbb,q0,q1,q2⟩:=op_cells (HL.out.ahead HW.out.bel) h1
   subst haa
   have hft:=HF.out.fit _ (List.getElem_mem h1)
   have hin:=HF.out.inr _ (List.getElem_mem h1)
   have hsi:=HF.out.siz (k + 1)
   have HT:=hid (flat_take (a:=A) h1)
   rw [HT.out,List.length_append] at hsi
   have hou:=out_len hft hin
   generalize l[k]=o at q0 q1 q2 hft hin hsi HT hou
   have hal:=HF.out.al
   rw [<-HNA.out] at hal
   have HO1:Hid (0 < o.len->outO A o=(A.drop o.off).take (o.off + o.len - o.off)/\copyO o=true/\o.off<=o.off + o.len/\o.off + o.len<=n):=hid (fun h=>⟨by rw [out_copy hft h,Nat.add_sub_cancel_left],(fit_copy hft).2 h,by omega,by rw [HNA.out]; exact hin h⟩)
   have HO2:Hid (o.len=0->outO A o=o.data/\copyO o=false):=hid (fun h=>⟨out_ins h,by
    cases hc:copyO o with
    | false=>rfl
    | true=>exact absurd ((fit_copy hft).1 hc) (by omega)⟩)
   obtain ⟨T,hT⟩:∃ T,T=(l.take k).flatMap (outO A):=⟨_,rfl⟩
   rw [<-hT] at HW HT hsi
   obtain ⟨D,hD⟩:∃ D,D=outO A o:=⟨_,rfl⟩
   rw [<-hD] at HO1 HO2 HT hsi
   have HC1:=hid (fun W=>isCopy_any o W)
   obtain ⟨cb,hcb⟩:∃ cb,cb=copyO o:=⟨_,rfl⟩
   rw [<-hcb] at HC1 HO1 HO2
   obtain ⟨off,len,data⟩:=o
   simp only [Dop.val] at *
   clear hft hin hou hT hD hcb hbb
   obtain ⟨v0,hv0⟩:∃ v0,v0=wr.alloc (.cells #[.int .i64 (off:Int),.int .i64 (len:Int),.string ⟨data.toArray⟩] 180):=⟨_,rfl⟩
   have hb1:Below wr.heap.size wr v0:=by rw [hv0]; exact (Below.refl _ _).alloc (Nat.le_refl _) _
   have HW1:=hid (HW.out.below hb1)
   have HK1:Hid (BK wr.heap.size #[.int .i64 (off:Int),.int .i64 (len:Int),.string ⟨data.toArray⟩] 180 v0):=hid (by rw [hv0]; exact BK.new _ _ _)
   have HC:=hid (HC1.out v0)
   rw [hv0] at HC
   have HV0:=hid hv0
   clear hv0 hb1 HW HZ HC1
   go_wp2_with fail
   (with_reducible refine (HC.out).mono ?_)
   rintro e v1 ⟨rfl,hb⟩
   rw [<-HV0.out] at hb
   have HW2:=hid (HW1.out.below hb)
   have HK2:=hid (HK1.out.below hb)
   clear hb HC HV0 HW1 HK1 q0 q1 q2
   obtain ⟨q0,q1,q2⟩:=BK.c3 (show BK _ #[.int .i64 (off:Int),.int .i64 (len:Int),.string ⟨data.toArray⟩] _ _ from HK2.out)
   cases cb with
   | true=>
    by_cases hl0:0 < len
    ·obtain ⟨e1,_,e2,e3⟩:=HO1.out hl0
     have hwr:IntKind.i64.wrap ((off:Int) + (len:Int))=((off + len:Nat):Int):=by rw [wrap_i64 (by omega) (by omega)]; omega
     have hsl:=fun W=>sl_mid A off (off + len) e2 (by rw [<-HNA.out]; exact e3) W
     rw [<-e1] at hsl
     have hex:(⟨A.toArray⟩:ByteArray).extract off (off + len)=⟨D.toArray⟩:=by rw [ex_mid,<-e1]
     have HWS:=hid (writeStr_bw HW2.out D (by omega))
     clear HO1 HO2 e1 HW2 HK2
     go_wp2_with fail
     (with_reducible refine (HWS.out).mono ?_)
     rintro e v2 ⟨rfl,HW3⟩
     rw [<-HT.out] at HW3
     go_wp2_with fail
     go_roundw
     case rel=>exact ⟨k + 1,by omega,by go_num,HW3,hid (fun h=>by omega)⟩
     case measure=>simp [intOf] <;> omega
    ·exfalso
     have:=(HO2.out (by omega)).2
     cases this
   | false=>
    by_cases hl0:0 < len
    ·exfalso
     have:=(HO1.out hl0).2.1
     cases this
    ·obtain ⟨e1,_⟩:=HO2.out (by omega)
     subst e1
     have HWS:=hid (writeStr_bw HW2.out D (by omega))
     clear HO1 HO2 HW2 HK2
     go_wp2_with fail
     (with_reducible refine (HWS.out).mono ?_)
     rintro e v2 ⟨rfl,HW3⟩
     rw [<-HT.out] at HW3
     go_wp2_with fail
     go_roundw
     case rel=>exact ⟨k + 1,by omega,by go_num,HW3,hid (fun h=>by omega)⟩
     case measure=>simp [intOf] <;> omega
  ·obtain rfl:k=m:=by omega
   have hkn:¬ (k:Int) < (k:Int):=by omega
   have HTK:Hid (l.take k=l):=hid (List.take_of_length_le (by rw [<-HM.out]; omega))
   rw [HTK.out] at HW
   by_cases hk0:k=0
   ·have hwr:=HZ.out hk0
    have hnil:l.flatMap (outO A)=[]:=by
     have:l=[]:=List.length_eq_zero_iff.1 (by rw [<-HM.out]; exact hk0)
     rw [this]; rfl
    rw [hnil] at HR
    have HB:=hid HW.out.bel
    rw [hwr] at HB ⊢
    have HS:=hid (bldStr_fresh HFR.out)
    clear HW HZ hwr hnil HF HL HTK
    go_wp2_with fail
    (with_reducible refine (HS.out).mono ?_)
    rintro e v1 ⟨rfl,hb⟩
    have HB2:=hid (HB.out.trans (hb.mono HB.out.size))
    clear hb HS
    go_wp2_with fail
    go_ret2
    rw [HR.out]
    exact ⟨rfl,HB2.out⟩
   ·have hne:=dfit_ne HF.out (by rw [<-HM.out]; omega)
    have HS:=hid (bldStr_bw HW.out hne)
    obtain ⟨T,hT⟩:∃ T,T=l.flatMap (outO A):=⟨_,rfl⟩
    rw [<-hT] at HS HR
    clear HW HZ hne HF HL HTK
    go_wp2_with fail
    (with_reducible refine (HS.out).mono ?_)
    rintro e v1 ⟨rfl,HW2⟩
    have HB2:=hid HW2.out.bel
    clear HW2 HS hT
    go_wp2_with fail
    go_ret2
    rw [HR.out]
    exact ⟨rfl,HB2.out⟩
open Go.RowKit
structure Pe where
 d:Int × Int
 kind:Int
 base:Int × Int
 off:Nat
 len:Nat
def fixD (l:List UInt8):Int × Int:=(fixS (l.take 8),fixS ((l.drop 8).take 8))
theorem okD_fix (l:List UInt8):OkD (fixD l):=by
 obtain ⟨h1,h2⟩:=fixS_range (l.take 8) (by rw [List.length_take]; omega)
 obtain ⟨h3,h4⟩:=fixS_range ((l.drop 8).take 8) (by rw [List.length_take]; omega)
 exact ⟨⟨h1,h2⟩,h3,h4⟩
theorem fixD_be {d:Int × Int} (h:OkD d) (l:List UInt8):fixD (beD d ++ l)=d:=by
 have h1:=be_length 8 d.1
 have h2:=be_length 8 d.2
 have e1:(beD d ++ l).take 8=be 8 d.1:=by unfold beD; rw [List.append_assoc]; exact takeL h1 _
 have e2:(beD d ++ l).drop 8=be 8 d.2 ++ l:=by unfold beD; rw [List.append_assoc]; exact dropL h1 _
 unfold fixD
 rw [e1,e2,takeL h2,fixS_be _ h.1.1 h.1.2,fixS_be _ h.2.1 h.2.2]
theorem beD_fix {l:List UInt8} (h:16<=l.length):beD (fixD l)=l.take 16:=by
 unfold beD fixD
 simp only
 rw [be_fix _ (by rw [List.length_take]; omega),be_fix _ (by rw [List.length_take,List.length_drop]; omega),<-List.take_add]
def entryS (b:List UInt8) (k:Nat):Option Pe:=
 if b.length < k + 16 then none else
 if (Cw.getI (b.drop (k + 16))).2.2 ≠ 0\/((Cw.getI (b.drop (k + 16))).1 ≠ 0/\(Cw.getI (b.drop (k + 16))).1 ≠ 1) then none else
 if (Cw.getI (b.drop (k + 16))).1=1/\b.length < k + 16 + (Cw.getI (b.drop (k + 16))).2.1.toNat + 16 then none else
 if (Cw.getT (b.drop (k + 16 + (Cw.getI (b.drop (k + 16))).2.1.toNat + if (Cw.getI (b.drop (k + 16))).1=1 then 16 else 0))).2.2 ≠ 0 then none else
 some ⟨fixD (b.drop k),(Cw.getI (b.drop (k + 16))).1,if (Cw.getI (b.drop (k + 16))).1=1 then fixD (b.drop (k + 16 + (Cw.getI (b.drop (k + 16))).2.1.toNat)) else (0,0),
  (k + 16 + (Cw.getI (b.drop (k + 16))).2.1.toNat + if (Cw.getI (b.drop (k + 16))).1=1 then 16 else 0) + (Cw.getT (b.drop (k + 16 + (Cw.getI (b.drop (k + 16))).2.1.toNat + if (Cw.getI (b.drop (k + 16))).1=1 then 16 else 0))).2.1.toNat - (Cw.getT (b.drop (k + 16 + (Cw.getI (b.drop (k + 16))).2.1.toNat + if (Cw.getI (b.drop (k + 16))).1=1 then 16 else 0))).1.length,
  (Cw.getT (b.drop (k + 16 + (Cw.getI (b.drop (k + 16))).2.1.toNat + if (Cw.getI (b.drop (k + 16))).1=1 then 16 else 0))).1.length⟩
def peGo (b:List UInt8):Nat->Nat->List Pe->List Pe × Int
 | 0,k,l=>if k=b.length then (l,0) else ([],13)
 | n + 1,k,l=>match entryS b k with
  | none=>([],13)
  | some e=>if e.d ∈ l.map (·.d) then ([],13) else peGo b n (e.off + e.len) (l ++ [e])
def pbodyS (b:List UInt8):List Pe × Int:=if (Cw.getI b).2.2 ≠ 0\/1000 < (Cw.getI b).1 then ([],13) else peGo b (Cw.getI b).1.toNat (Cw.getI b).2.1.toNat []
def entriesS (s:List UInt8):List Pe × Int:=
 if s.length < 16 then ([],12) else if digS (s.take (s.length - 16)) ≠ fixD (s.drop (s.length - 16)) then ([],14) else pbodyS (s.take (s.length - 16))
def sealS (b:List UInt8):List UInt8:=b ++ beD (digS b)
theorem seal_iff {s:List UInt8} (h:16<=s.length) (hd:OkD (digS (s.take (s.length - 16)))):sealS (s.take (s.length - 16))=s ↔ digS (s.take (s.length - 16))=fixD (s.drop (s.length - 16)):=by
 have hl:(s.drop (s.length - 16)).length=16:=by rw [List.length_drop]; omega
 constructor
 ·intro e
  have h1:beD (digS (s.take (s.length - 16)))=s.drop (s.length - 16):=by
   have h2:(s.take (s.length - 16) ++ beD (digS (s.take (s.length - 16)))).drop (s.length - 16)=beD (digS (s.take (s.length - 16))):=dropL (by rw [List.length_take]; omega) _
   have h3:(sealS (s.take (s.length - 16))).drop (s.length - 16)=s.drop (s.length - 16):=by rw [e]
   exact h2.symm.trans h3
  have h4:=fixD_be hd []
  rw [List.append_nil,h1] at h4
  exact h4.symm
 ·intro e
  unfold sealS
  rw [e,beD_fix (by omega),List.take_of_length_le (l:=s.drop (s.length - 16)) (by omega),List.take_append_drop]
structure PeAt (b:List UInt8) (k:Nat) (e:Pe):Prop where
 lo:k + 18<=e.off + e.len
 off:k + 18<=e.off
 hi:e.off + e.len<=b.length
 kind:e.kind=0\/e.kind=1
 dok:OkD e.d
 bok:OkD e.base
 text:(b.drop e.off).take e.len=(Cw.getT (b.drop (k + 16 + (Cw.getI (b.drop (k + 16))).2.1.toNat + if (Cw.getI (b.drop (k + 16))).1=1 then 16 else 0))).1
 tl:e.len<=65536
theorem getT_off {l x:List UInt8} {k:Int} (h:Cw.getT l=(x,k,0)):x.length + 1<=k.toNat/\k.toNat<=l.length/\(l.drop (k.toNat - x.length)).take x.length=x:=by
 obtain ⟨h1,h2,h3,h4⟩:=getT_canon h
 have h5:=congrArg List.length h4
 rw [List.length_take,List.length_append] at h5
 have h6:0 < (Cw.enc x.length).length:=List.length_pos_iff.2 (enc_ne _)
 refine ⟨by omega,by omega,?_⟩
 have h7:=congrArg (List.drop (Cw.enc x.length).length) h4
 rw [List.drop_left,List.drop_take] at h7
 rw [show k.toNat - x.length=(Cw.enc x.length).length by omega]
 rw [show k.toNat - (Cw.enc x.length).length=x.length by omega] at h7
 exact h7
theorem entryS_at {b:List UInt8} {k:Nat} {e:Pe} (h:entryS b k=some e):PeAt b k e/\e.kind=(Cw.getI (b.drop (k + 16))).1:=by
 unfold entryS at h
 by_cases h1:b.length < k + 16
 ·rw [if_pos h1] at h; cases h
 rw [if_neg h1] at h
 obtain ⟨kd,u,er,hg⟩:∃ kd u er,Cw.getI (b.drop (k + 16))=(kd,u,er):=⟨_,_,_,rfl⟩
 rw [hg] at h
 simp only at h
 by_cases h2:er ≠ 0\/(kd ≠ 0/\kd ≠ 1)
 ·rw [if_pos h2] at h; cases h
 rw [if_neg h2] at h
 have he:er=0:=by
  by_cases e:er=0
  ·exact e
  ·exact absurd (.inl e) h2
 subst he
 obtain ⟨_,_,g3,g4,_⟩:=getI_bounds hg
 by_cases h3:kd=1/\b.length < k + 16 + u.toNat + 16
 ·rw [if_pos h3] at h; cases h
 rw [if_neg h3] at h
 obtain ⟨q,hq⟩:∃ q,q=k + 16 + u.toNat + if kd=1 then 16 else 0:=⟨_,rfl⟩
 have hq1:k + 17<=q:=by rw [hq]; omega
 rw [<-hq] at h
 obtain ⟨x,v,er2,hg2⟩:∃ x v er2,Cw.getT (b.drop q)=(x,v,er2):=⟨_,_,_,rfl⟩
 rw [hg2] at h
 simp only at h
 by_cases h4:er2 ≠ 0
 ·rw [if_pos h4] at h; cases h
 rw [if_neg h4] at h
 obtain rfl:er2=0:=by
  by_cases e:er2=0
  ·exact e
  ·exact absurd e h4
 obtain ⟨t1,t2,t3⟩:=getT_off hg2
 have t4:=(getT_canon hg2).2.2.1
 rw [List.length_drop] at t2
 cases h
 refine ⟨⟨by simp only; omega,by simp only; omega,by simp only; omega,?_,okD_fix _,?_,?_,t4⟩,by rw [hg]⟩
 ·simp only
  by_cases e:kd=0
  ·exact .inl e
  ·by_cases e1:kd=1
   ·exact .inr e1
   ·exact absurd (.inr ⟨e,e1⟩) h2
 ·simp only
  split
  ·exact okD_fix _
  ·exact ⟨⟨by decide,by decide⟩,by decide,by decide⟩
 ·simp only
  rw [hg]
  simp only
  rw [<-hq,hg2]
  simp only
  rw [List.drop_drop] at t3
  rw [show q + v.toNat - x.length=q + (v.toNat - x.length) by omega]
  exact t3
structure EntsOk (b:List UInt8) (l:List Pe):Prop where
 nd:(l.map (·.d)).Nodup
 at_:∀ e ∈ l,∃ k,entryS b k=some e
 up:∀ i (h:i + 1 < l.length),l[i].off + l[i].len < l[i + 1].off
theorem EntsOk.nil (b:List UInt8):EntsOk b []:=⟨List.nodup_nil,fun e h=>by simp at h,fun i h=>by simp at h⟩
theorem EntsOk.snoc {b:List UInt8} {l:List Pe} {k:Nat} {e:Pe} (h:EntsOk b l) (hk:∀ h:0 < l.length,k=l[l.length - 1].off + l[l.length - 1].len) (he:entryS b k=some e) (hn:e.d ∉ l.map (·.d)):EntsOk b (l ++ [e]):=by
 refine ⟨?_,fun x hx=>?_,fun i hi=>?_⟩
 ·rw [List.map_append,List.nodup_append]
  refine ⟨h.nd,by simp,fun a ha c hc e2=>?_⟩
  simp only [List.map_cons,List.map_nil,List.mem_singleton] at hc
  rw [e2,hc] at ha
  exact hn ha
 ·rcases List.mem_append.1 hx with hx | hx
  ·exact h.at_ x hx
  ·rw [List.mem_singleton.1 hx]; exact ⟨k,he⟩
 ·rw [List.length_append,List.length_singleton] at hi
  by_cases h1:i + 1 < l.length
  ·rw [List.getElem_append_left (by omega),List.getElem_append_left h1]
   exact h.up i h1
  ·have h2:i + 1=l.length:=by omega
   have h3:=hk (by omega)
   have h4:=(entryS_at he).1.off
   rw [List.getElem_append_left (by omega),List.getElem_append_right (by omega)]
   simp only [h2,Nat.sub_self,List.getElem_cons_zero]
   have h5:l.length - 1=i:=by omega
   simp only [h5] at h3
   omega
theorem peGo_ok:∀ (n:Nat) {b:List UInt8} {k:Nat} {acc l:List Pe},EntsOk b acc->(∀ h:0 < acc.length,k=acc[acc.length - 1].off + acc[acc.length - 1].len)->peGo b n k acc=(l,0)->EntsOk b l/\l.length=acc.length + n
 | 0,b,k,acc,l,h,hk,e=>by
  rw [peGo] at e
  split at e
  ·cases e; exact ⟨h,rfl⟩
  ·simp at e
 | n + 1,b,k,acc,l,h,hk,e=>by
  rw [peGo] at e
  cases he:entryS b k with
  | none=>rw [he] at e; simp at e
  | some x=>
   rw [he] at e
   simp only at e
   by_cases hn:x.d ∈ acc.map (·.d)
   ·rw [if_pos hn] at e; simp at e
   ·rw [if_neg hn] at e
    obtain ⟨g1,g2⟩:=peGo_ok n (h.snoc hk he hn) (fun _=>by simp) e
    refine ⟨g1,?_⟩
    rw [g2,List.length_append,List.length_singleton]; omega
theorem peGo_bad:∀ (n:Nat) {b:List UInt8} {k:Nat} {acc:List Pe},(peGo b n k acc).2 ≠ 0->peGo b n k acc=([],13)
 | 0,b,k,acc,h=>by
  rw [peGo] at h ⊢
  split
  ·rename_i e; rw [if_pos e] at h; simp at h
  ·rfl
 | n + 1,b,k,acc,h=>by
  rw [peGo] at h ⊢
  cases he:entryS b k with
  | none=>rfl
  | some x=>
   rw [he] at h
   simp only at h ⊢
   split
   ·rfl
   ·rename_i hn
    rw [if_neg hn] at h
    exact peGo_bad n h
theorem entriesS_ok {s:List UInt8} {l:List Pe} (h:entriesS s=(l,0)):EntsOk (s.take (s.length - 16)) l/\l.length<=1000/\16<=s.length:=by
 unfold entriesS at h
 split at h
 ·simp at h
 ·split at h
  ·simp at h
  ·unfold pbodyS at h
   split at h
   ·simp at h
   ·rename_i h1 _ h2
    obtain ⟨g1,g2⟩:=peGo_ok _ (EntsOk.nil _) (fun h=>by simp at h) h
    refine ⟨g1,?_,by omega⟩
    rw [g2]
    have h3:¬ (1000 < (Cw.getI (s.take (s.length - 16))).1):=fun e=>h2 (.inr e)
    simp only [List.length_nil]
    omega
theorem entriesS_bad {s:List UInt8} (h:(entriesS s).2 ≠ 0):(entriesS s).1=[]:=by
 unfold entriesS at h ⊢
 split
 ·rfl
 ·rename_i h1
  rw [if_neg h1] at h
  split
  ·rfl
  ·rename_i h2
   rw [if_neg h2] at h
   unfold pbodyS at h ⊢
   split
   ·rfl
   ·rename_i h3
    rw [if_neg h3] at h
    rw [peGo_bad _ h]
def pcompS (s:List UInt8) (src:List UInt8 × Int) (e:Pe):List UInt8 × Int:=
 if e.kind=1 then
  (if src.2 ≠ 0 then src else if (decD ((s.drop e.off).take e.len)).2 ≠ 0 then ([],13) else
   if (applyD src.1 (decD ((s.drop e.off).take e.len)).1).2 ≠ 0 then ([],13) else rightS (applyD src.1 (decD ((s.drop e.off).take e.len)).1).1 e.d)
 else rightS ((s.drop e.off).take e.len) e.d
where rightS (t:List UInt8) (d:Int × Int):List UInt8 × Int:=if (decodeS t).2 ≠ 0 then ([],13) else if digS t ≠ d then ([],15) else (t,0)
def idxE (l:List Pe) (d:Int × Int):Option Nat:=l.findIdx? fun e=>decide (e.d=d)
def datI (xs:List Itm) (d:Int × Int):List UInt8 × Int:=match xs.find? fun x=>decide (x.d=d) with
 | some x=>(x.data,0)
 | none=>([],8)
def srcS (xs:List Itm) (l:List Pe) (prev:Nat->List UInt8 × Int) (i:Nat) (d:Int × Int):List UInt8 × Int:=
 match idxE l d with
 | some j=>if j < i then prev j else datI xs d
 | none=>datI xs d
def datF (s:List UInt8) (xs:List Itm) (l:List Pe):Nat->Nat->List UInt8 × Int
 | 0,_=>([],0)
 | f + 1,i=>match l[i]? with
  | none=>([],8)
  | some e=>pcompS s (srcS xs l (datF s xs l f) i e.base) e
def datS (s:List UInt8) (xs:List Itm) (l:List Pe) (i:Nat):List UInt8 × Int:=datF s xs l (i + 1) i
theorem datF_eq {s:List UInt8} {xs:List Itm} {l:List Pe}:∀ (f g i:Nat),i < f->i < g->datF s xs l f i=datF s xs l g i
 | 0,_,i,h,_=>by omega
 | _,0,i,_,h=>by omega
 | f + 1,g + 1,i,h1,h2=>by
  rw [datF,datF]
  cases he:l[i]? with
  | none=>rfl
  | some e=>
   simp only
   congr 1
   unfold srcS
   cases hx:idxE l e.base with
   | none=>rfl
   | some j=>
    simp only
    split
    ·exact datF_eq f g j (by omega) (by omega)
    ·rfl
theorem datS_eq {s:List UInt8} {xs:List Itm} {l:List Pe} {i:Nat} (h:i < l.length):datS s xs l i=pcompS s (srcS xs l (datS s xs l) i l[i].base) l[i]:=by
 unfold datS
 rw [datF,List.getElem?_eq_getElem h]
 simp only
 congr 1
 unfold srcS
 cases hx:idxE l l[i].base with
 | none=>rfl
 | some j=>
  simp only
  split
  ·exact datF_eq _ _ _ (by omega) (by omega)
  ·rfl
theorem idxE_some {l:List Pe} {d:Int × Int} {i:Nat} (h:idxE l d=some i):∃ h:i < l.length,l[i].d=d/\∀ j (hj:j < i),l[j].d ≠ d:=by
 unfold idxE at h
 rw [List.findIdx?_eq_some_iff_getElem] at h
 obtain ⟨h1,h2,h3⟩:=h
 exact ⟨h1,by simpa using h2,fun j hj=>by simpa using h3 j hj⟩
theorem idxE_none {l:List Pe} {d:Int × Int}:idxE l d=none ↔ ∀ e ∈ l,e.d ≠ d:=by
 unfold idxE
 rw [List.findIdx?_eq_none_iff]
 simp
theorem idxE_at {l:List Pe} (hn:(l.map (·.d)).Nodup) {i:Nat} (h:i < l.length):idxE l l[i].d=some i:=by
 cases hx:idxE l l[i].d with
 | none=>exact absurd rfl (idxE_none.1 hx _ (List.getElem_mem h))
 | some j=>
  obtain ⟨hj,h1,_⟩:=idxE_some hx
  have h2:(l.map (·.d))[j]'(by simpa using hj)=(l.map (·.d))[i]'(by simpa using h):=by simpa using h1
  rw [(List.getElem_inj hn).1 h2]
def byC (c:UInt8):List Value:=[.int .u8 c.toNat]
theorem layBy:Lay byC 1:=⟨by decide,fun o=>rfl,fun o v hv=>by
 simp only [byC,List.mem_cons,List.not_mem_nil,or_false] at hv
 subst hv; rfl⟩
theorem gcs_byC (l:List UInt8):gcs byC l=Lib.byteCells l:=by
 unfold gcs byC Lib.byteCells
 induction l with
 | nil=>rfl
 | cons a l ih=>rw [List.flatMap_cons,ih]; rfl
theorem append_byte {base:Nat} {W:World} {v:Value} {n:Nat} {l:List UInt8} (hn:n=l.length) (hown:W.ownsRow base 5 1 v n (Lib.byteCells l)) (c:Int) (h0:0<=c) (h1:c < 256) (hlen:(n:Int)<=1000000) (hbase:base<=W.heap.size) :
  ∃ v' W',Hid ((Builtin.append_ #[34,34] 34 #[v,.slice (some ⟨W.heap.size,0,none⟩) 1 1]).run Tryz.prog (W.alloc (.cells #[.int .u8 c] 5)) = .ok v' W')/\W'.ownsRow base 5 1 v' (n + 1) (Lib.byteCells (l ++ [UInt8.ofNat c.toNat]))/\(W.alloc (.cells #[.int .u8 c] 5)).grownBy W' v.ownBlock/\(v'.ownBlock=v.ownBlock\/v'.ownBlock=some (W.heap.size + 1)):=by
 obtain ⟨i0,hi,hz0,hz1,hz2⟩:=info_parts infoU8
 rw [<-gcs_byC] at hown
 have h:=append_oneG layBy Tryz.underlying34 hi hz0 hz1 hz2 rfl hn hown (UInt8.ofNat c.toNat) hlen (by decide) hbase
 rw [gcs_byC] at h
 have e:(byC (UInt8.ofNat c.toNat)).toArray = #[.int .u8 c]:=by
  unfold byC
  rw [Cw.toNat_ofNat _ (by omega),Int.toNat_of_nonneg h0]
 rwa [e] at h
theorem bytesOf_any (x y:Int) (hx:0<=x/\x<=18446744073709551615) (hy:0<=y/\y<=18446744073709551615) (w:World):Calls Tryz.prog 70 #[.agg #[.int .u64 x,.int .u64 y]] w fun e w'=>e = .returned (.string ⟨(beD (x,y)).toArray⟩)/\Below w.heap.size w w':=by
 obtain ⟨i0,hi,hz0,hz1,hz2⟩:=info_parts infoU8
 obtain ⟨u0,hu0⟩:∃ u0,u0=w.alloc (.cells #[.int .u64 x,.int .u64 y] 41):=⟨_,rfl⟩
 have hb0:Below w.heap.size w u0:=by rw [hu0]; exact (Below.refl _ _).alloc (Nat.le_refl _) _
 obtain ⟨u,hmk,hown,hg⟩:=run_make_own (P:=Tryz.prog) u0 w.heap.size 34 5 i0 _ 1 Tryz.underlying34 hi hz0 hz1 .i64 .i64 16 (by rw [hz2]; decide) (by decide) hb0.size
 have HB:=hid (hb0.grown hg hb0.size (fun k h=>by cases h))
 have HO:=hid hown
 obtain ⟨Z,hZ⟩:∃ Z,Z=Value.slice (some ⟨u0.heap.size,0,none⟩) 0 16:=⟨_,rfl⟩
 rw [<-hZ] at HO hmk
 rw [hu0] at hmk
 have hc0:(w.alloc (.cells #[.int .u64 x,.int .u64 y] 41)).cell? ⟨w.heap.size,0,none⟩=some (.int .u64 x):=by rw [(BK.new w _ _).cell]; rfl
 have hc1:u.cell? ⟨w.heap.size,0,none⟩=some (.int .u64 x)/\u.cell? ⟨w.heap.size,1,none⟩=some (.int .u64 y):=by
  have hlt:w.heap.size < u0.heap.size:=by rw [hu0]; simp
  have hk:BK w.heap.size #[.int .u64 x,.int .u64 y] 41 u:=by
   have:=hg.block w.heap.size hlt (by simp)
   unfold BK
   rw [this,hu0]
   exact BK.new w _ _
  exact ⟨by rw [hk.cell]; rfl,by rw [hk.cell]; rfl⟩
 obtain ⟨hc1,hc2⟩:=hc1
 have hmk2:(Instr.makeSlice 34 (.int .i64 0) (.int .i64 16)).run Tryz.prog (w.alloc (.cells #[.int .u64 x,.int .u64 y] 41)) = .ok Z u:=hmk
 clear hu0 hb0 hown hg hz0 hz1 hz2 hi hc0 hZ hmk
 go_enter Tryz.func70,Tryz.ntmps70
 go_wp2_with fail
 go_loopw [9,3] (fun i v wr=>∃ k:Nat,k<=2/\i = .int .i64 (k:Int)/\Hid (Below w.heap.size w wr)/\Hid (wr.ownsRow w.heap.size 5 1 v (8 * k) (Lib.byteCells (bePart x y k)))) (fun i _ _=>2 - (intOf i).toNat)
 case atStart=>exact ⟨0,by omega,rfl,HB,hid (by simpa [bePart,Lib.byteCells] using HO.out)⟩
 case round=>
  clear HB HO
  obtain ⟨k,hk,rfl,HB,HO⟩:=hrel
  by_cases hlt:k < 2
  ·obtain ⟨n,hn,hn0,HN⟩:∃ n:Int,(∀ W,(Instr.index 41 (.agg #[.int .u64 x,.int .u64 y]) (.int .i64 (k:Int))).run Tryz.prog W = .ok (.int .u64 n) W)/\0<=n/\Hid (bePart x y (k + 1)=bePart x y k ++ be 8 n/\(bePart x y k).length=8 * k):=by
    rcases (show k=0\/k=1 by omega) with rfl | rfl
    ·exact ⟨x,fun W=>by kernel_rfl,hx.1,hid ⟨by simp [bePart],by simp [bePart]⟩⟩
    ·exact ⟨y,fun W=>by kernel_rfl,hy.1,hid ⟨rfl,by simp [bePart,be_length]⟩⟩
   have hkn:(k:Int) < 2:=by omega
   have dk:decide ((k:Int) < 2)=true:=by simpa using hkn
   obtain ⟨L0,hL0⟩:∃ L0,L0=bePart x y k:=⟨_,rfl⟩
   rw [<-hL0] at HO HN
   clear hL0
   go_wp2_with fail
   go_loopw [6,3] (fun s v wr=>∃ (j:Nat) (p:List UInt8),j<=8/\s = .int .i64 (8 * (j:Int) - 8)/\p.length + j=8/\Hid (p ++ be j n=be 8 n)/\Hid (Below w.heap.size w wr)/\Hid (wr.ownsRow w.heap.size 5 1 v (8 * k + p.length) (Lib.byteCells (L0 ++ p)))) (fun s _ _=>(intOf s + 8).toNat)
   case atStart=>exact ⟨8,[],by omega,rfl,by simp,hid rfl,HB,by rw [List.append_nil]; exact HO⟩
   case round=>
    clear HB HO
    obtain ⟨j,p,hj,rfl,hp,HP,HB,HO⟩:=hrel
    cases j with
    | zero=>
     have HPE:Hid (L0 ++ p=bePart x y (k + 1)):=hid (by rw [HN.out.1,<-HP.out]; simp [be])
     rw [HPE.out,show 8 * k + p.length=8 * (k + 1) by omega] at HO
     go_wp2_with fail
     go_roundw
     case rel=>exact ⟨k + 1,by omega,by go_num,HB,HO⟩
     case measure=>simp [intOf] <;> omega
    | succ i=>
     have hi8:8 * ((i + 1:Nat):Int) - 8=8 * (i:Int):=by omega
     rw [hi8]
     obtain ⟨z,hz⟩:∃ z,z=n / 2 ^ (8 * i):=⟨_,rfl⟩
     have hsh:n / 2 ^ (8 * (i:Int)).toNat=z:=by
      rw [hz]
      congr 2
     obtain ⟨c,hc⟩:∃ c,c=z % 256:=⟨_,rfl⟩
     have hcv:IntKind.u8.wrap z=c:=by rw [hc]; simp [IntKind.wrap,IntKind.bits,IntKind.signed]
     have hc0:0<=c:=by omega
     have hc1:c < 256:=by omega
     have HP2:Hid ((p ++ [UInt8.ofNat c.toNat]) ++ be i n=be 8 n):=hid (by rw [<-HP.out,be,<-hz,<-hc,List.append_assoc]; rfl)
     obtain ⟨va,vc,rfl,hvc⟩:=ownsRow_sliceN HO.out
     obtain ⟨v',W',HRUN,hown',hg',_⟩:=append_byte (by rw [List.length_append,HN.out.2]) HO.out c hc0 hc1 (by omega) HB.out.size
     have HB2:Hid (Below w.heap.size w W'):=hid ((HB.out.alloc HB.out.size _).grown hg' (by have:=HB.out.size; simp; omega) (fun i hi=>by have:=(HO.out.lt i hi).1; omega))
     rw [List.append_assoc] at hown'
     have HO2:=hid hown'
     have hil:i<=7:=by omega
     clear hc hz HP hown' hg' HB HO
     go_wp2_with (at_builtin; refine Lib.wpList_append_run _ rfl _ _ _ _ rfl _ _ rfl rfl _ _ HRUN.out ?_)
     go_roundw
     case rel=>exact ⟨i,p ++ [UInt8.ofNat c.toNat],by omega,rfl,by simp; omega,HP2,HB2,hid (by rw [List.length_append,List.length_singleton,<-Nat.add_assoc]; exact HO2.out)⟩
     case measure=>simp [intOf] <;> omega
  ·obtain rfl:k=2:=by omega
   obtain ⟨va,vc,rfl,hvc⟩:=ownsRow_sliceN HO.out
   have hcv:=conv_row (l:=beD (x,y)) (by rw [beD_length]; exact HO.out) (by intro h; have:=beD_length (x,y); rw [h] at this; simp at this)
   go_wp2_with fail
   go_ret
   exact ⟨rfl,HB.out⟩
theorem digestAt_any (l:List UInt8) (w:World) (h16:16<=l.length) (hl:(l.length:Int)<=140737488355328) :
  Calls Tryz.prog 38 #[.string ⟨l.toArray⟩] w fun e w'=>e = .returned (.agg #[.int .u64 (fixD l).1,.int .u64 (fixD l).2])/\Below w.heap.size w w':=by
 have HR:Hid (fixD l=dgAt l 16):=hid (by unfold fixD; rw [dgAt_full])
 go_enter Tryz.func38,Tryz.ntmps38
 go_wp2_with fail
 go_loopw [5] (fun i wr=>∃ (k:Nat) (x y:Int),k<=16/\i = .int .i64 k/\Hid (Below w.heap.size w wr)/\Hid (BK w.heap.size #[.int .u64 0,.int .u64 0] 41 wr)/\Hid (BK (w.heap.size + 1) #[.int .u64 x,.int .u64 y] 41 wr)/\Hid (dgAt l k=(x,y))) (fun i _=>16 - (intOf i).toNat)
 case atStart=>exact ⟨0,0,0,by omega,rfl,hid (((Below.refl _ w).alloc (Nat.le_refl _) _).alloc (by simp) _),hid ((BK.new _ _ _).alloc _),hid (BK.new2 _ _ _ _),hid (dgAt_zero l)⟩
 case round=>
  obtain ⟨k,x,y,hk,rfl,HB,HZ,HX,HD⟩:=hrel
  have g1:wr.cell? ⟨w.heap.size + 1,0,none⟩=some (.int .u64 x):=by rw [HX.out.cell]; rfl
  have g2:wr.cell? ⟨w.heap.size + 1,1,none⟩=some (.int .u64 y):=by rw [HX.out.cell]; rfl
  have z1:wr.frozen? ⟨w.heap.size + 1,0,none⟩=false:=HX.out.frozen 0
  have z2:wr.frozen? ⟨w.heap.size + 1,1,none⟩=false:=HX.out.frozen 1
  by_cases hlt:k < 16
  ·have hkl:k < l.length:=by omega
   by_cases hk8:k < 8
   ·have HN:Hid (dgAt l (k + 1)=(fstep x l[k],y)):=hid (by rw [dgAt_lo l k (by omega) hk8,HD.out])
    have hq1:(k:Int).tdiv 8=0:=by rw [Int.tdiv_eq_ediv_of_nonneg (by omega)]; omega
    have hq2:(k:Int) / 8=0:=by omega
    have dk:decide ((k:Int) < 16)=true:=by simp; omega
    go_wp2_with fail
    go_region
    go_wp2_with fail
    go_roundw
    case rel=>exact ⟨k + 1,_,_,by omega,by go_num,hid (HB.out.setCell (p:=⟨w.heap.size + 1,0,none⟩) (by simp) _).drew,hid (HZ.out.other (by omega) _ _),hid (HX.out.set _ _),hid HN.out⟩
    case measure=>simp [intOf]; omega
   ·have HN:Hid (dgAt l (k + 1)=(x,fstep y l[k])):=hid (by rw [dgAt_hi l k (by omega) (by omega) hlt,HD.out])
    have hq1:(k:Int).tdiv 8=1:=by rw [Int.tdiv_eq_ediv_of_nonneg (by omega)]; omega
    have hq2:(k:Int) / 8=1:=by omega
    have dk:decide ((k:Int) < 16)=true:=by simp; omega
    go_wp2_with fail
    go_region
    go_wp2_with fail
    go_roundw
    case rel=>exact ⟨k + 1,_,_,by omega,by go_num,hid (HB.out.setCell (p:=⟨w.heap.size + 1,1,none⟩) (by simp) _).drew,hid (HZ.out.other (by omega) _ _),hid (HX.out.set _ _),hid HN.out⟩
    case measure=>simp [intOf]; omega
  ·obtain rfl:k=16:=by omega
   have y2:wr.frozen? ⟨w.heap.size,0,none⟩=false:=HZ.out.frozen 0
   have y3:wr.frozen? ⟨w.heap.size,1,none⟩=false:=HZ.out.frozen 1
   have y0:wr.cell? ⟨w.heap.size,0,none⟩=some (.int .u64 0):=by rw [HZ.out.cell]; rfl
   have y1:wr.cell? ⟨w.heap.size,1,none⟩=some (.int .u64 0):=by rw [HZ.out.cell]; rfl
   go_wp2_with fail
   refine bodyPost_ret (v:=.agg #[.int .u64 x,.int .u64 y]) (by simp [results,Tryz.results38,go_sem,y0,y1]) rfl ⟨by rw [HR.out,HD.out],?_⟩
   exact (HB.out.setCell (by simp) _).setCell (by simp) _
end Go.Proofs.YtijkieiihpiljaaGreat
