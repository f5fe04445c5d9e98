/- Joined texts: PkD, PkRw, PkC, PkE, PkF, PkG, PkB. -/
import Derived.Test.YtijkieiihpiljaaGreatK3
import Derived.Test.YtijkieiihpiljaaGreatK4
import Derived.Test.YtijkieiihpiljaaGreatK6
import Derived.Test.YtijkieiihpiljaaGreatK2
/- Deltas on paper: check,encoding,decoding,application. -/
set_option maxRecDepth 100000
set_option maxHeartbeats 16000000
open Go.Lib (hid)
namespace Go.Proofs.YtijkieiihpiljaaGreat
open Go.RowKit
set_option linter.unusedVariables false
structure Dop where
 off:Nat
 len:Nat
 data:List UInt8
def copyO (o:Dop):Bool:=decide (0 < o.len) && decide (o.data=[])
def insO (o:Dop):Bool:=decide (o.len=0) && decide (o.off=0) && !decide (o.data=[])
def sizeO (o:Dop):Nat:=if 0 < o.len then o.len else o.data.length
def chkO (n:Nat):List Dop->Nat->Int
 | [],_=>0
 | o :: l,p=>if copyO o=false/\insO o=false then 1 else if copyO o=true/\(n < o.len\/n < o.off + o.len) then 2 else if 65536 < sizeO o + p then 4 else chkO n l (p + sizeO o)
def checkD (l:List Dop) (n:Nat):Int:=if 65536 < n then 2 else chkO n l 0
def encO (o:Dop):List UInt8:=Cw.enc o.len ++ (if copyO o=true then Cw.enc o.off else (putT o.data).1)
def encL (l:List Dop):List UInt8 × Int:=if checkD l 65536 ≠ 0 then ([],checkD l 65536) else (Cw.enc l.length ++ l.flatMap encO,0)
def outO (a:List UInt8) (o:Dop):List UInt8:=if copyO o=true then (a.drop o.off).take o.len else o.data
def applyD (a:List UInt8) (l:List Dop):List UInt8 × Int:=if checkD l a.length ≠ 0 then ([],checkD l a.length) else (l.flatMap (outO a),0)
def opS (s:List UInt8):Option (Dop × Nat):=
 if (Cw.getI s).2.2 ≠ 0 then none
 else if 0 < (Cw.getI s).1 then
  (if (Cw.getI (s.drop (Cw.getI s).2.1.toNat)).2.2 ≠ 0 then none else some (⟨(Cw.getI (s.drop (Cw.getI s).2.1.toNat)).1.toNat,(Cw.getI s).1.toNat,[]⟩,(Cw.getI s).2.1.toNat + (Cw.getI (s.drop (Cw.getI s).2.1.toNat)).2.1.toNat))
 else
  (if (Cw.getT (s.drop (Cw.getI s).2.1.toNat)).2.2 ≠ 0 then none else some (⟨0,0,(Cw.getT (s.drop (Cw.getI s).2.1.toNat)).1⟩,(Cw.getI s).2.1.toNat + (Cw.getT (s.drop (Cw.getI s).2.1.toNat)).2.1.toNat))
def opsGo:Nat->List UInt8->List Dop->Option (List Dop × List UInt8)
 | 0,s,l=>some (l,s)
 | n + 1,s,l=>match opS s with
  | none=>none
  | some (o,k)=>opsGo n (s.drop k) (l ++ [o])
def decD (s:List UInt8):List Dop × Int:=
 if (Cw.getI s).2.2 ≠ 0 then ([],13) else match opsGo (Cw.getI s).1.toNat (s.drop (Cw.getI s).2.1.toNat) [] with
  | none=>([],13)
  | some (l,r)=>if r ≠ []\/checkD l 65536 ≠ 0 then ([],13) else (l,0)
theorem getI_split {l:List UInt8} {n k:Int} (h:Cw.getI l=(n,k,0)):l=Cw.enc n.toNat ++ l.drop k.toNat/\0<=n/\1<=k/\k<=l.length:=by
 obtain ⟨h1,h2,h3⟩:=Cw.getI_canon h
 obtain ⟨_,_,h4,h5,_⟩:=getI_bounds h
 refine ⟨?_,h1,h4,h5⟩
 rw [h2,Int.toNat_natCast]
 conv=>lhs; rw [<-List.take_append_drop (Cw.enc n.toNat).length l]
 rw [h3]
theorem getT_split {l x:List UInt8} {k:Int} (h:Cw.getT l=(x,k,0)):l=(Cw.enc x.length ++ x) ++ l.drop k.toNat/\1<=k/\k<=l.length/\x.length<=65536:=by
 obtain ⟨h1,h2,h3,h4⟩:=getT_canon h
 refine ⟨?_,h1,h2,h3⟩
 conv=>lhs; rw [<-List.take_append_drop k.toNat l]
 rw [h4]
theorem opS_split {s:List UInt8} {o:Dop} {k:Nat} (h:opS s=some (o,k)):s=encO o ++ s.drop k/\1<=k/\k<=s.length/\o.data.length<=65536/\(0 < o.len->o.data=[])/\(o.len=0->o.off=0)/\o.len<=1099511627776/\o.off<=1099511627776:=by
 unfold opS at h
 obtain ⟨n,u,er,hg⟩:∃ n u er,Cw.getI s=(n,u,er):=⟨_,_,_,rfl⟩
 rw [hg] at h
 simp only at h
 by_cases he:er=0
 ·subst he
  obtain ⟨g1,g2,g3,g4⟩:=getI_split hg
  have g5:=(getI_bounds hg).2.1
  rw [if_neg (by simp)] at h
  by_cases hn:0 < n
  ·rw [if_pos hn] at h
   obtain ⟨m,v,er2,hg2⟩:∃ m v er2,Cw.getI (s.drop u.toNat)=(m,v,er2):=⟨_,_,_,rfl⟩
   rw [hg2] at h
   simp only at h
   by_cases he2:er2=0
   ·subst he2
    obtain ⟨k1,k2,k3,k4⟩:=getI_split hg2
    have k5:=(getI_bounds hg2).2.1
    rw [if_neg (by simp)] at h
    cases h
    rw [List.length_drop] at k4
    refine ⟨?_,by omega,by omega,by simp,fun _=>rfl,fun e=>?_,by simp only; omega,by simp only; omega⟩
    ·have hc:copyO ⟨m.toNat,n.toNat,[]⟩=true:=by unfold copyO; simp; omega
     unfold encO
     rw [if_pos hc]
     simp only
     rw [List.append_assoc,<-List.drop_drop,<-k1]
     exact g1
    ·simp only at e; omega
   ·rw [if_pos he2] at h; cases h
  ·rw [if_neg hn] at h
   obtain ⟨x,v,er2,hg2⟩:∃ x v er2,Cw.getT (s.drop u.toNat)=(x,v,er2):=⟨_,_,_,rfl⟩
   rw [hg2] at h
   simp only at h
   by_cases he2:er2=0
   ·subst he2
    obtain ⟨k1,k2,k3,k4⟩:=getT_split hg2
    rw [if_neg (by simp)] at h
    cases h
    rw [List.length_drop] at k3
    refine ⟨?_,by omega,by omega,k4,fun e=>by simp at e,fun _=>rfl,by simp,by simp⟩
    have hc:copyO ⟨0,0,x⟩=false:=by unfold copyO; simp
    unfold encO
    rw [hc,if_neg (by simp)]
    simp only
    unfold putT
    rw [if_pos k4]
    simp only
    have hn0:n.toNat=0:=by omega
    rw [hn0] at g1
    rw [List.append_assoc,<-List.drop_drop,<-k1]
    exact g1
   ·rw [if_pos he2] at h; cases h
 ·rw [if_pos he] at h; cases h
structure OpsAt (s0:List UInt8) (k:Nat) (l:List Dop) (s:List UInt8):Prop where
 len:l.length=k
 cat:s0=l.flatMap encO ++ s
 room:k + s.length<=s0.length
 small:∀ o ∈ l,o.data.length<=65536/\(0 < o.len->o.data=[])/\(o.len=0->o.off=0)/\o.len<=1099511627776/\o.off<=1099511627776
theorem OpsAt.start (s:List UInt8):OpsAt s 0 [] s:=⟨rfl,rfl,by omega,fun o h=>by simp at h⟩
theorem OpsAt.next {s0 s:List UInt8} {k n:Nat} {l:List Dop} {o:Dop} (h:OpsAt s0 k l s) (ho:opS s=some (o,n)):OpsAt s0 (k + 1) (l ++ [o]) (s.drop n):=by
 obtain ⟨h1,h2,h3,h4⟩:=opS_split ho
 have h5:=h.len
 have h6:=h.room
 refine ⟨by simp [h5],?_,?_,fun p hp=>?_⟩
 ·rw [List.flatMap_append,List.append_assoc]
  simp only [List.flatMap_cons,List.flatMap_nil,List.append_nil]
  rw [<-h1]
  exact h.cat
 ·rw [List.length_drop]; omega
 ·rcases List.mem_append.1 hp with hp | hp
  ·exact h.small p hp
  ·rw [List.mem_singleton.1 hp]; exact h4
theorem opsGo_law:∀ (n k:Nat) {s0 s:List UInt8} {l l':List Dop} {r:List UInt8},OpsAt s0 k l s->opsGo n s l=some (l',r)->OpsAt s0 (k + n) l' r
 | 0,k,s0,s,l,l',r,h,e=>by cases e; exact h
 | n + 1,k,s0,s,l,l',r,h,e=>by
  rw [opsGo] at e
  cases ho:opS s with
  | none=>rw [ho] at e; cases e
  | some p=>
   obtain ⟨o,m⟩:=p
   rw [ho] at e
   have:=opsGo_law n (k + 1) (h.next ho) e
   rwa [Nat.add_assoc,Nat.add_comm 1 n] at this
theorem decD_good {s:List UInt8} {l:List Dop} (h:decD s=(l,0)):checkD l 65536=0/\(encL l).1=s/\(l.length:Int)<=s.length/\∀ o ∈ l,o.data.length<=65536/\o.len<=1099511627776/\o.off<=1099511627776:=by
 unfold decD at h
 obtain ⟨n,u,er,hg⟩:∃ n u er,Cw.getI s=(n,u,er):=⟨_,_,_,rfl⟩
 rw [hg] at h
 simp only at h
 by_cases he:er=0
 ·subst he
  rw [if_neg (by simp)] at h
  cases hr:opsGo n.toNat (s.drop u.toNat) [] with
  | none=>rw [hr] at h; simp at h
  | some p=>
   obtain ⟨l',r⟩:=p
   rw [hr] at h
   simp only at h
   by_cases hc:r ≠ []\/checkD l' 65536 ≠ 0
   ·rw [if_pos hc] at h; simp at h
   ·rw [if_neg hc] at h
    cases h
    have hr0:r=[]:=by
     by_cases e:r=[]
     ·exact e
     ·exact absurd (.inl e) hc
    have hc0:checkD l 65536=0:=by
     by_cases e:checkD l 65536=0
     ·exact e
     ·exact absurd (.inr e) hc
    subst hr0
    have ha:=opsGo_law _ 0 (OpsAt.start _) hr
    obtain ⟨g1,g2,g3,g4⟩:=getI_split hg
    refine ⟨hc0,?_,?_,fun o ho=>?_⟩
    ·unfold encL
     rw [if_neg (by simp [hc0])]
     simp only
     have h1:=ha.cat
     rw [List.append_nil] at h1
     rw [<-h1,ha.len,Nat.zero_add]
     exact g1.symm
    ·have h1:=ha.room
     have h2:=ha.len
     rw [List.length_drop,List.length_nil] at h1
     omega
    ·obtain ⟨a1,_,_,a2,a3⟩:=ha.small o ho
     exact ⟨a1,a2,a3⟩
 ·rw [if_pos he] at h; simp at h
theorem decD_ref {s:List UInt8} {n u:Int} (hg:Cw.getI s=(n,u,0)) {k:Nat} {l:List Dop} {r:List UInt8} (h:OpsAt (s.drop u.toNat) k l r) (hk:k=n.toNat) (hgo:opsGo n.toNat (s.drop u.toNat) []=some (l,r)):decD s=if (encL l).2 ≠ 0\/(encL l).1 ≠ s then ([],13) else (l,0):=by
 unfold decD
 rw [hg]
 simp only [ne_eq,not_true_eq_false,if_false]
 rw [hgo]
 simp only
 obtain ⟨g1,g2,g3,g4⟩:=getI_split hg
 unfold encL
 by_cases hc:checkD l 65536=0
 ·simp only [hc,ne_eq,not_true_eq_false,if_false,or_false,false_or]
  have e:(Cw.enc l.length ++ l.flatMap encO=s) ↔ r=[]:=by
   rw [h.len,hk]
   constructor
   ·intro e
    have h1:=h.cat
    rw [h1,<-List.append_assoc,e] at g1
    have h2:=congrArg List.length g1
    rw [List.length_append] at h2
    exact List.length_eq_zero_iff.1 (by omega)
   ·intro e
    have h1:=h.cat
    rw [e,List.append_nil] at h1
    rw [<-h1]
    exact g1.symm
  by_cases hr:r=[]
  ·rw [if_neg (by simpa using hr),if_neg (by simpa using e.2 hr)]
  ·rw [if_pos hr,if_pos (fun h=>hr (e.1 h))]
 ·simp [hc]
theorem opsGo_none {n:Nat} {s:List UInt8} {l:List Dop} (k:Nat):∀ {s0:List UInt8},opsGo k s0 []=some (l,s)->k < n->opS s=none->opsGo n s0 []=none:=by
 have gen:∀ (k n:Nat) (s0:List UInt8) (acc:List Dop),opsGo k s0 acc=some (l,s)->k < n->opS s=none->opsGo n s0 acc=none:=by
  intro k
  induction k with
  | zero=>
   intro n s0 acc h hn hs
   cases h
   obtain ⟨m,rfl⟩:∃ m,n=m + 1:=⟨n - 1,by omega⟩
   rw [opsGo,hs]
  | succ k ih=>
   intro n s0 acc h hn hs
   obtain ⟨m,rfl⟩:∃ m,n=m + 1:=⟨n - 1,by omega⟩
   rw [opsGo] at h ⊢
   cases ho:opS s0 with
   | none=>rfl
   | some p=>
    obtain ⟨o,j⟩:=p
    rw [ho] at h
    exact ih m _ _ h (by omega) hs
 intro s0 h1 h2 h3
 exact gen k n s0 [] h1 h2 h3
theorem opsGo_snoc:∀ (k:Nat) {s0 s:List UInt8} {acc l:List Dop} {o:Dop} {m:Nat},opsGo k s0 acc=some (l,s)->opS s=some (o,m)->opsGo (k + 1) s0 acc=some (l ++ [o],s.drop m)
 | 0,s0,s,acc,l,o,m,h,ho=>by
  cases h
  rw [opsGo,ho]
  rfl
 | k + 1,s0,s,acc,l,o,m,h,ho=>by
  rw [opsGo] at h ⊢
  cases h2:opS s0 with
  | none=>rw [h2] at h; cases h
  | some p=>
   obtain ⟨o2,j⟩:=p
   rw [h2] at h
   exact opsGo_snoc k h ho
open Go.RowKit Go.Shelf
section
variable {α:Type} {f:α->List Value} {z:Nat}
def gcs (f:α->List Value) (l:List α):List Value:=l.flatMap f
structure Lay (f:α->List Value) (z:Nat):Prop where
 pos:0 < z
 len:∀ a,(f a).length=z
 one:∀ a,∀ v ∈ f a,v.oneCell' = true
theorem gcs_append (f:α->List Value) (a b:List α):gcs f (a ++ b)=gcs f a ++ gcs f b:=by simp [gcs]
theorem gcs_cons (f:α->List Value) (a:α) (b:List α):gcs f (a :: b)=f a ++ gcs f b:=by simp [gcs]
theorem gcs_one (f:α->List Value) (a:α):gcs f [a]=f a:=by simp [gcs]
theorem gcs_length (h:Lay f z):∀ l:List α,(gcs f l).length=l.length * z
 | []=>by simp [gcs]
 | a :: l=>by rw [gcs_cons,List.length_append,h.len,gcs_length h l,List.length_cons,Nat.add_mul]; omega
theorem gcs_ones (h:Lay f z) (l:List α):∀ v ∈ gcs f l,v.oneCell' = true:=by
 intro v hv
 simp only [gcs,List.mem_flatMap] at hv
 obtain ⟨a,_,hv⟩:=hv
 exact h.one a v hv
theorem gcs_at (h:Lay f z):∀ (l:List α) (i:Nat) (hi:i < l.length) (j:Nat),j < z->(gcs f l)[i * z + j]? = (f l[i])[j]?
 | [],i,hi,_,_=>by simp at hi
 | a :: l,0,_,j,hj=>by
  rw [gcs_cons,Nat.zero_mul,Nat.zero_add,List.getElem?_append_left (by rw [h.len]; exact hj)]
  rfl
 | a :: l,i + 1,hi,j,hj=>by
  rw [gcs_cons,List.getElem?_append_right (by rw [h.len,Nat.add_mul]; omega),h.len,show (i + 1) * z + j - z=i * z + j by rw [Nat.add_mul]; omega,gcs_at h l i (by simpa using hi) j hj]
  rfl
theorem gcs_set (h:Lay f z):∀ (l:List α) (i:Nat) (hi:i < l.length) (j:Nat) (v:Value) (b:α),j < z->f b=(f l[i]).set j v->(gcs f l).set (i * z + j) v=gcs f (l.set i b)
 | [],i,hi,_,_,_,_,_=>by simp at hi
 | a :: l,0,_,j,v,b,hj,hb=>by
  rw [gcs_cons,Nat.zero_mul,Nat.zero_add,List.set_append_left _ _ (by rw [h.len]; exact hj),List.set_cons_zero,gcs_cons,hb]
  rfl
 | a :: l,i + 1,hi,j,v,b,hj,hb=>by
  rw [gcs_cons,List.set_append_right _ _ (by rw [h.len,Nat.add_mul]; omega),h.len,show (i + 1) * z + j - z=i * z + j by rw [Nat.add_mul]; omega,List.set_cons_succ,gcs_cons,gcs_set h l i (by simpa using hi) j v b hj (by simpa using hb)]
def GIn (f:α->List Value) (z B:Nat) (W:World) (a:Option Addr) (l:List α):Prop:=
 ∀ i (h:i < l.length),∃ b off,a=some ⟨b,off,none⟩/\b < B/\∀ j v,(f l[i])[j]? = some v->W.cell? ⟨b,off + i * z + j,none⟩=some v
theorem GIn.nil (B:Nat) (W:World) (a:Option Addr):GIn f z B W a []:=fun i h=>by simp at h
theorem GIn.below {B B':Nat} {W W':World} {a:Option Addr} {l:List α} (h:GIn f z B W a l) (hb:Below B' W W') (hB:B<=B'):GIn f z B W' a l:=by
 intro i hi
 obtain ⟨b,off,ha,hlt,hc⟩:=h i hi
 exact ⟨b,off,ha,hlt,fun j v hv=>(hb.cell (p:=⟨b,off + i * z + j,none⟩) (by simp; omega)).trans (hc j v hv)⟩
theorem GIn.mono {B B':Nat} {W:World} {a:Option Addr} {l:List α} (h:GIn f z B W a l) (hB:B<=B'):GIn f z B' W a l:=by
 intro i hi
 obtain ⟨b,off,ha,hlt,hc⟩:=h i hi
 exact ⟨b,off,ha,by omega,hc⟩
theorem GIn.ahead {w W:World} {a:Option Addr} {l:List α} (h:GIn f z w.heap.size w a l) (hb:Below w.heap.size w W):GIn f z W.heap.size W a l:=(h.below hb (Nat.le_refl _)).mono hb.size
theorem GIn.store {W W':World} {tb:Nat} {cs:Array Value} {T:TypeId} {a:Option Addr} {l:List α} (h:GIn f z W.heap.size W a l) (hk:BK tb cs T W) (hz:0 < z) (hl:∀ a,(f a).length=z) (hn:∀ (j:Nat) (a:α),cs[j]? ≠ (f a)[0]?) (hg:W.grownBy W' (some tb)):GIn f z W'.heap.size W' a l:=by
 intro i hi
 obtain ⟨b,off,rfl,hb,hc⟩:=h i hi
 have hne:some b ≠ some tb:=fun e=>by
  cases e
  have h0:(f l[i])[0]? = some ((f l[i])[0]'(by rw [hl]; exact hz)):=List.getElem?_eq_getElem _
  have h1:=hc 0 _ h0
  rw [hk.cell] at h1
  exact hn _ l[i] (h1.trans h0.symm)
 exact ⟨b,off,rfl,Nat.lt_of_lt_of_le hb hg.size,fun j v hv=>(hg.cell_far ⟨b,off + i * z + j,none⟩ hb hne).trans (hc j v hv)⟩
theorem own_gin {W:World} {base:Nat} {e:TypeId} {a:Option Addr} {n c:Nat} {l:List α} (hf:Lay f z) (hn:n=l.length) (h:W.ownsRow base e z (.slice a n c) n (gcs f l)):GIn f z W.heap.size W a l:=by
 subst hn
 intro i hi
 rcases h.2 with ⟨h1,h2⟩ | ⟨g,cap,cur,h1,_,hg,_⟩
 ·omega
 ·cases h1
  refine ⟨g,0,rfl,(Array.getElem?_eq_some_iff.1 hg).1,fun j v hv=>?_⟩
  have hj:j < z:=by rw [<-hf.len l[i]]; exact (List.getElem?_eq_some_iff.1 hv).1
  have hji:i * z + j < l.length * z:=by
   have:(i + 1) * z<=l.length * z:=Nat.mul_le_mul_right _ hi
   rw [Nat.add_mul] at this; omega
  rw [Nat.zero_add,h.cellAt _ hji,gcs_at hf l i hi j hj,hv]
theorem append_oneG {base:Nat} {t e:TypeId} {i0:TypeInfo} {zv:Value} {bytes:Nat} (hf:Lay f z) (ht:Tryz.prog.underlying t=some (.slice e)) (hi:Tryz.prog.info? e=some i0) (hz0:i0.zero=some zv) (hz1:i0.size=z) (hz2:i0.bytes=bytes) (hzs:zv.cells.size=z)
  {W:World} {v:Value} {n:Nat} {l:List α} (hn:n=l.length) (hown:W.ownsRow base e z v n (gcs f l)) (x:α) (hlen:(n:Int)<=1000000) (hby:bytes<=1000) (hbase:base<=W.heap.size) :
  ∃ v' W',Hid ((Builtin.append_ #[t,t] t #[v,.slice (some ⟨W.heap.size,0,none⟩) 1 1]).run Tryz.prog (W.alloc (.cells (f x).toArray e)) = .ok v' W')/\W'.ownsRow base e z v' (n + 1) (gcs f (l ++ [x]))/\(W.alloc (.cells (f x).toArray e)).grownBy W' v.ownBlock/\(v'.ownBlock=v.ownBlock\/v'.ownBlock=some (W.heap.size + 1)):=by
 have hb:(n + 1) * bytes<=140737488355328:=Nat.le_trans (Nat.mul_le_mul (show n + 1<=1000001 by omega) hby) (by decide)
 obtain ⟨v',W',h1,h2,h3,h4⟩:=append_src (P:=Tryz.prog) (W.alloc (.cells (f x).toArray e)) base t t e i0 zv z bytes ht hi hz0 hz1 hz2 hzs hf.pos v n (gcs f l) (hown.alloc _) (some ⟨W.heap.size,0,none⟩) 1 1 (f x) (by rw [hf.len]; omega) (.inr ⟨_,rfl,fun j u hu=>by
  have hk:=BK.new W (f x).toArray e
  rw [Go.WideShapes.add_plain,hk.cell]
  simpa using hu⟩) (hf.one x) (by unfold maxLen; omega) hb (by simp; omega)
 refine ⟨v',W',hid h1,?_,h3,by simpa using h4⟩
 rw [gcs_append,gcs_one]
 exact h2
theorem own_setG {W:World} {base:Nat} {e:TypeId} {g n cap i j:Nat} {l:List α} (hf:Lay f z) (h:W.ownsRow base e z (.slice (some ⟨g,0,none⟩) n cap) n (gcs f l)) (hn:n=l.length) (hi:i < l.length) (hj:j < z) (v:Value) (b:α) (hb:f b=(f l[i]).set j v) :
  (W.setCell ⟨g,i * z + j,none⟩ v).ownsRow base e z (.slice (some ⟨g,0,none⟩) n cap) n (gcs f (l.set i b)):=by
 rw [<-gcs_set hf l i hi j v b hj hb]
 exact (h.stored (i * z + j) v).1
end
def opCs (o:Dop):List Value:=[.int .i64 (o.off:Int),.int .i64 (o.len:Int),.string ⟨o.data.toArray⟩]
def Dop.val (o:Dop):Value:=.agg #[.int .i64 (o.off:Int),.int .i64 (o.len:Int),.string ⟨o.data.toArray⟩]
theorem layOp:Lay opCs 3:=⟨by decide,fun o=>rfl,fun o v hv=>by
 simp only [opCs,List.mem_cons,List.not_mem_nil,or_false] at hv
 rcases hv with rfl | rfl | rfl <;> rfl⟩
theorem op_cells {B:Nat} {W:World} {a:Option Addr} {l:List Dop} (h:GIn opCs 3 B W a l) {k:Nat} (hk:k < l.length):∃ b off,a=some ⟨b,off,none⟩/\b < B/\W.cell? ⟨b,off + k * 3,none⟩=some (.int .i64 (l[k].off:Int))/\W.cell? ⟨b,off + k * 3 + 1,none⟩=some (.int .i64 (l[k].len:Int))/\W.cell? ⟨b,off + k * 3 + 2,none⟩=some (.string ⟨l[k].data.toArray⟩):=by
 obtain ⟨b,off,h1,h2,h3⟩:=h k hk
 exact ⟨b,off,h1,h2,h3 0 _ rfl,h3 1 _ rfl,h3 2 _ rfl⟩
theorem nilB (l:List UInt8):decide (l=[])=l.isEmpty:=by cases l <;> rfl
theorem copyO_is (o:Dop):copyO o=(decide ((0:Int) < (o.len:Int)) && o.data.isEmpty):=by
 unfold copyO
 rw [nilB]
 congr 1
 rw [Bool.eq_iff_iff]
 simp only [decide_eq_true_eq]
 omega
theorem insO_is (o:Dop):insO o=(((o.len:Int) == 0) && ((o.off:Int) == 0) && !o.data.isEmpty):=by
 unfold insO
 rw [nilB]
 congr 2 <;> (rw [Bool.eq_iff_iff]; simp)
theorem isCopy_any (o:Dop) (w:World):Calls Tryz.prog 114 #[o.val] w fun e w'=>e = .returned (.bool (copyO o))/\Below w.heap.size w w':=by
 have HR:=hid (copyO_is o)
 generalize copyO o=R at HR
 obtain ⟨off,len,data⟩:=o
 simp only [Dop.val] at HR ⊢
 generalize (off:Int)=fo
 generalize (len:Int)=le at HR
 have HB0:Hid (Below w.heap.size w (w.alloc (.cells #[.int .i64 fo,.int .i64 le,.string ⟨data.toArray⟩] 180))):=hid ((Below.refl _ w).alloc (Nat.le_refl _) _)
 by_cases hl:0 < le
 ·have HR2:Hid (R=data.isEmpty):=hid (by rw [HR.out]; simp [hl])
  clear HR
  cases hd:data.isEmpty <;> (rw [hd] at HR2; go_enter Tryz.func114,Tryz.ntmps114; go_wp2_with fail; go_ret; exact ⟨by rw [HR2.out]; rfl,HB0.out⟩)
 ·have HR2:Hid (R=false):=hid (by rw [HR.out]; simp; intro h; omega)
  clear HR
  go_enter Tryz.func114,Tryz.ntmps114
  go_wp2_with fail
  go_ret
  exact ⟨by rw [HR2.out]; rfl,HB0.out⟩
theorem isIns_any (o:Dop) (w:World):Calls Tryz.prog 139 #[o.val] w fun e w'=>e = .returned (.bool (insO o))/\Below w.heap.size w w':=by
 have HR:=hid (insO_is o)
 generalize insO o=R at HR
 obtain ⟨off,len,data⟩:=o
 simp only [Dop.val] at HR ⊢
 generalize (off:Int)=fo at HR
 generalize (len:Int)=le at HR
 have HB0:Hid (Below w.heap.size w (w.alloc (.cells #[.int .i64 fo,.int .i64 le,.string ⟨data.toArray⟩] 180))):=hid ((Below.refl _ w).alloc (Nat.le_refl _) _)
 cases hl:(le == 0) with
 | false=>
  have HR2:Hid (R=false):=hid (by rw [HR.out,hl]; rfl)
  clear HR
  go_enter Tryz.func139,Tryz.ntmps139
  go_wp2_with fail
  go_ret
  exact ⟨by rw [HR2.out]; rfl,HB0.out⟩
 | true=>
  cases hf:(fo == 0) with
  | false=>
   have HR2:Hid (R=false):=hid (by rw [HR.out,hf]; simp)
   clear HR
   go_enter Tryz.func139,Tryz.ntmps139
   go_wp2_with fail
   go_ret
   exact ⟨by rw [HR2.out]; rfl,HB0.out⟩
  | true=>
   cases hd:data.isEmpty with
   | false=>
    have HR2:Hid (R=true):=hid (by rw [HR.out,hl,hf,hd]; rfl)
    clear HR
    go_enter Tryz.func139,Tryz.ntmps139
    go_wp2_with fail
    go_ret
    exact ⟨by rw [HR2.out]; rfl,HB0.out⟩
   | true=>
    have HR2:Hid (R=false):=hid (by rw [HR.out,hl,hf,hd]; rfl)
    clear HR
    go_enter Tryz.func139,Tryz.ntmps139
    go_wp2_with fail
    go_ret
    exact ⟨by rw [HR2.out]; rfl,HB0.out⟩
theorem dsize_any (o:Dop) (w:World):Calls Tryz.prog 119 #[o.val] w fun e w'=>e = .returned (.int .i64 (sizeO o:Int))/\Below w.heap.size w w':=by
 obtain ⟨off,len,data⟩:=o
 simp only [Dop.val]
 have hs:(sizeO ⟨off,len,data⟩:Int)=if (0:Int) < (len:Int) then (len:Int) else (data.length:Int):=by
  unfold sizeO
  simp only
  by_cases h:0 < len
  ·rw [if_pos h,if_pos (by omega)]
  ·rw [if_neg h,if_neg (by omega)]
 obtain ⟨S,hS⟩:∃ S:Int,S=(sizeO ⟨off,len,data⟩:Int):=⟨_,rfl⟩
 rw [<-hS]
 rw [<-hS] at hs
 have hsz:=ba_len data
 generalize (data.length:Nat)=dl at hsz hs
 have HS:=hid hs
 clear hs hS
 generalize (off:Int)=fo
 generalize (len:Int)=le at HS
 have HB0:Hid (Below w.heap.size w (w.alloc (.cells #[.int .i64 fo,.int .i64 le,.string ⟨data.toArray⟩] 180))):=hid ((Below.refl _ w).alloc (Nat.le_refl _) _)
 by_cases hl:0 < le
 ·go_enter Tryz.func119,Tryz.ntmps119
  go_wp2_with fail
  go_ret
  exact ⟨by rw [HS.out,if_pos hl]; rfl,HB0.out⟩
 ·go_enter Tryz.func119,Tryz.ntmps119
  go_wp2_with fail
  go_ret
  exact ⟨by rw [HS.out,if_neg (by omega)]; rfl,HB0.out⟩
def Chk (n:Nat) (l:List Dop) (k p:Nat):Prop:=chkO n l 0=chkO n (l.drop k) p/\p<=65536
theorem Chk.start (n:Nat) (l:List Dop):Chk n l 0 0:=⟨rfl,by omega⟩
theorem Chk.at {n:Nat} {l:List Dop} {k p:Nat} (h:Chk n l k p) (hk:k < l.length):chkO n l 0=if copyO l[k]=false/\insO l[k]=false then 1 else if copyO l[k]=true/\(n < l[k].len\/n < l[k].off + l[k].len) then 2 else if 65536 < sizeO l[k] + p then 4 else chkO n (l.drop (k + 1)) (p + sizeO l[k]):=by
 rw [h.1,List.drop_eq_getElem_cons hk,chkO]
theorem Chk.fin {n:Nat} {l:List Dop} {k p:Nat} (h:Chk n l k p) (hk:l.length<=k):chkO n l 0=0:=by
 rw [h.1,List.drop_of_length_le hk,chkO]
theorem dcheck_any (a:Option Addr) (l:List Dop) (c n:Nat) (w:World) (hl:GIn opCs 3 w.heap.size w a l) (hn:(n:Int)<=9223372036854775807) (hll:(l.length:Int)<=9223372036854775807) (hs:∀ o ∈ l,o.data.length<=1099511627776/\o.len<=1099511627776/\o.off<=1099511627776) :
  Calls Tryz.prog 112 #[.slice a l.length c,.int .i64 (n:Int)] w fun e w'=>e = .returned (.int .i64 (checkD l n))/\Below w.heap.size w w':=by
 obtain ⟨R,hR⟩:∃ R,R=checkD l n:=⟨_,rfl⟩
 rw [<-hR]
 unfold checkD at hR
 have HR:=hid hR
 obtain ⟨m,hm⟩:∃ m,m=l.length:=⟨_,rfl⟩
 rw [<-hm] at hll ⊢
 have HN:=hid hm
 have HL:=hid hl
 have HS:=hid hs
 clear hR hm hl hs
 by_cases hbig:65536 < n
 ·have hbi:(65536:Int) < (n:Int):=by omega
  have hb0:¬ (n:Int) < 0:=by omega
  have HR2:Hid (R=2):=hid (by rw [HR.out,if_pos hbig])
  have HB:=hid (Below.refl w.heap.size w)
  clear HR hbig
  go_enter Tryz.func112,Tryz.ntmps112
  go_wp2_with fail
  go_ret
  exact ⟨by rw [HR2.out]; rfl,HB.out⟩
 have hbi:¬ (65536:Int) < (n:Int):=by omega
 have hb0:¬ (n:Int) < 0:=by omega
 have HR1:Hid (R=chkO n l 0):=hid (by rw [HR.out,if_neg hbig])
 clear HR hbig
 go_enter Tryz.func112,Tryz.ntmps112
 go_wp2_with fail
 go_loopw [16,5] (fun i s wr=>∃ k p:Nat,k<=m/\i = .int .i64 (k:Int)/\s = .int .i64 (p:Int)/\Hid (Below w.heap.size w wr)/\Hid (Chk n l k p)) (fun i _ _=>m - (intOf i).toNat)
 case atStart=>exact ⟨0,0,by omega,rfl,rfl,hid (Below.refl _ _),hid (Chk.start n l)⟩
 case round=>
  obtain ⟨k,p,hk,rfl,rfl,HB,HE⟩:=hrel
  have hp:=HE.out.2
  by_cases hlt:k < m
  ·have h1:k < l.length:=by rw [<-HN.out]; exact hlt
   have hki:(k:Int) < (m:Int):=by omega
   obtain ⟨b0,of0,haa,hbb,q0,q1,q2⟩:=op_cells (HL.out.ahead HB.out) h1
   subst haa
   have HST:Hid (R=_):=hid (HR1.out.trans (HE.out.at h1))
   have HNX:Hid (∀ q,65536 < sizeO l[k] + p\/(q=p + sizeO l[k]->R=chkO n (l.drop (k + 1)) q->Chk n l (k + 1) q)):=hid (fun q=>by
    by_cases e:65536 < sizeO l[k] + p
    ·exact .inl e
    ·exact .inr (fun h2 h3=>⟨by rw [<-HR1.out]; exact h3,by omega⟩))
   have hsm:=HS.out _ (List.getElem_mem h1)
   generalize l[k]=o at q0 q1 q2 HST HNX hsm
   have hszo:sizeO o<=1099511627776:=by unfold sizeO; split <;> omega
   have HC1:=hid (fun W=>isCopy_any o W)
   have HC2:=hid (fun W=>isIns_any o W)
   have HC3:=hid (fun W=>dsize_any o W)
   obtain ⟨cb,hcb⟩:∃ b,b=copyO o:=⟨_,rfl⟩
   obtain ⟨ib,hib⟩:∃ b,b=insO o:=⟨_,rfl⟩
   obtain ⟨z,hz⟩:∃ z,z=sizeO o:=⟨_,rfl⟩
   rw [<-hcb] at HC1
   rw [<-hib] at HC2
   rw [<-hz] at HC3 hszo
   rw [<-hcb,<-hib,<-hz] at HST
   rw [<-hz] at HNX
   obtain ⟨off,len,data⟩:=o
   simp only [Dop.val] at *
   clear HE hcb hib hz hbb
   obtain ⟨u0,hu0⟩:∃ u0,u0=wr.alloc (.cells #[.int .i64 (off:Int),.int .i64 (len:Int),.string ⟨data.toArray⟩] 180):=⟨_,rfl⟩
   have hb1:Below wr.heap.size wr u0:=by rw [hu0]; exact (Below.refl _ _).alloc (Nat.le_refl _) _
   have HB1:=hid (HB.out.trans (hb1.mono HB.out.size))
   have HK1:Hid (BK wr.heap.size #[.int .i64 (off:Int),.int .i64 (len:Int),.string ⟨data.toArray⟩] 180 u0):=hid (by rw [hu0]; exact BK.new _ _ _)
   have HC:=hid (HC1.out u0)
   rw [hu0] at HC
   have HU0:=hid hu0
   have hlb:(len:Int)<=1099511627776/\(off:Int)<=1099511627776:=by omega
   clear hu0 hb1 HL HS hsm
   go_wp2_with fail
   (with_reducible refine (HC.out).mono ?_)
   rintro e u2 ⟨rfl,hb⟩
   rw [<-HU0.out] at hb
   have HB2:=hid (HB1.out.trans (hb.mono HB1.out.size))
   have HK2:=hid (HK1.out.below hb)
   clear hb HC HU0 HB1 HK1 q0 q1 q2
   -- THE ROUND
   cases cb with
   | true=>
    have HC:=hid (HC1.out u2)
    obtain ⟨k0,k1,k2⟩:=BK.c3 (show BK _ #[.int .i64 (off:Int),.int .i64 (len:Int),.string ⟨data.toArray⟩] _ _ from HK2.out)
    go_wp2_with fail
    (with_reducible refine (HC.out).mono ?_)
    rintro e u3 ⟨rfl,hb⟩
    have HB3:=hid (HB2.out.trans (hb.mono HB2.out.size))
    have HK3:=hid (HK2.out.below hb)
    clear hb HC HB2 HK2 k0 k1 k2
    obtain ⟨m0,m1,m2⟩:=BK.c3 (show BK _ #[.int .i64 (off:Int),.int .i64 (len:Int),.string ⟨data.toArray⟩] _ _ from HK3.out)
    have g0:¬ (off:Int) < 0:=by omega
    by_cases h3:n < len
    case pos=>
     have g1:(n:Int) < (len:Int):=by omega
     have HRR:Hid (R=2):=hid (by rw [HST.out,if_neg (by simp),if_pos ⟨by simp,.inl h3⟩])
     clear HST HNX
     go_wp2_with fail
     go_ret
     exact ⟨by rw [HRR.out]; rfl,HB3.out⟩
    have g1:¬ (n:Int) < (len:Int):=by omega
    have g2:IntKind.i64.wrap ((n:Int) - (len:Int))=(n:Int) - (len:Int):=wrap_i64 (by omega) (by omega)
    by_cases h4:n < off + len
    case pos=>
     have g3:(n:Int) - (len:Int) < (off:Int):=by omega
     have HRR:Hid (R=2):=hid (by rw [HST.out,if_neg (by simp),if_pos ⟨by simp,.inr h4⟩])
     clear HST HNX
     go_wp2_with fail
     go_ret
     exact ⟨by rw [HRR.out]; rfl,HB3.out⟩
    have g3:¬ (n:Int) - (len:Int) < (off:Int):=by omega
    have HST:Hid (R=if 65536 < z + p then 4 else chkO n (l.drop (k + 1)) (p + z)):=hid (by rw [HST.out,if_neg (by simp),if_neg (fun e=>e.2.elim h3 h4)])
    clear m0 m1 m2
    have HC:=hid (HC3.out u3)
    obtain ⟨k0,k1,k2⟩:=BK.c3 (show BK _ #[.int .i64 (off:Int),.int .i64 (len:Int),.string ⟨data.toArray⟩] _ _ from HK3.out)
    go_wp2_with fail
    (with_reducible refine (HC.out).mono ?_)
    rintro e u4 ⟨rfl,hb⟩
    have HB4:=hid (HB3.out.trans (hb.mono HB3.out.size))
    have HK4:=hid (HK3.out.below hb)
    clear hb HC HB3 HK3 k0 k1 k2
    by_cases hz1:65536 < z + p
    case pos=>
     have hz2:(65536:Int) - (p:Int) < (z:Int):=by omega
     have hz3:IntKind.i64.wrap ((65536:Int) - (p:Int))=(65536:Int) - (p:Int):=wrap_i64 (by omega) (by omega)
     have HRR:Hid (R=4):=hid (by rw [HST.out,if_pos hz1])
     clear HST HNX
     go_wp2_with fail
     go_ret
     exact ⟨by rw [HRR.out]; rfl,HB4.out⟩
    have hz2:¬ (65536:Int) - (p:Int) < (z:Int):=by omega
    have hz3:IntKind.i64.wrap ((65536:Int) - (p:Int))=(65536:Int) - (p:Int):=wrap_i64 (by omega) (by omega)
    have hz4:IntKind.i64.wrap ((p:Int) + (z:Int))=((p + z:Nat):Int):=by rw [wrap_i64 (by omega) (by omega)]; omega
    have HE2:Hid (Chk n l (k + 1) (p + z)):=hid (((HNX.out (p + z)).resolve_left hz1) rfl (by rw [HST.out,if_neg hz1]))
    clear hz1 HST HNX
    have HC:=hid (HC3.out u4)
    obtain ⟨k0,k1,k2⟩:=BK.c3 (show BK _ #[.int .i64 (off:Int),.int .i64 (len:Int),.string ⟨data.toArray⟩] _ _ from HK4.out)
    go_wp2_with fail
    (with_reducible refine (HC.out).mono ?_)
    rintro e u5 ⟨rfl,hb⟩
    have HB5:=hid (HB4.out.trans (hb.mono HB4.out.size))
    have HK5:=hid (HK4.out.below hb)
    clear hb HC HB4 HK4 k0 k1 k2
    go_wp2_with fail
    go_roundw
    case rel=>exact ⟨k + 1,p + z,by omega,by go_num,by go_num,HB5,HE2⟩
    case measure=>simp [intOf] <;> omega
   | false=>
    have HC:=hid (HC2.out u2)
    obtain ⟨k0,k1,k2⟩:=BK.c3 (show BK _ #[.int .i64 (off:Int),.int .i64 (len:Int),.string ⟨data.toArray⟩] _ _ from HK2.out)
    go_wp2_with fail
    (with_reducible refine (HC.out).mono ?_)
    rintro e u3 ⟨rfl,hb⟩
    have HB3:=hid (HB2.out.trans (hb.mono HB2.out.size))
    have HK3:=hid (HK2.out.below hb)
    clear hb HC HB2 HK2 k0 k1 k2
    cases ib with
    | false=>
     have HRR:Hid (R=1):=hid (by rw [HST.out,if_pos ⟨by simp,by simp⟩])
     clear HST HNX
     go_wp2_with fail
     go_ret
     exact ⟨by rw [HRR.out]; rfl,HB3.out⟩
    | true=>
     have HC:=hid (HC1.out u3)
     obtain ⟨k0,k1,k2⟩:=BK.c3 (show BK _ #[.int .i64 (off:Int),.int .i64 (len:Int),.string ⟨data.toArray⟩] _ _ from HK3.out)
     go_wp2_with fail
     (with_reducible refine (HC.out).mono ?_)
     rintro e u4 ⟨rfl,hb⟩
     have HB4:=hid (HB3.out.trans (hb.mono HB3.out.size))
     have HK4:=hid (HK3.out.below hb)
     clear hb HC HB3 HK3 k0 k1 k2
     have HST:Hid (R=if 65536 < z + p then 4 else chkO n (l.drop (k + 1)) (p + z)):=hid (by rw [HST.out,if_neg (by simp),if_neg (by simp)])
     have HC:=hid (HC3.out u4)
     obtain ⟨k0,k1,k2⟩:=BK.c3 (show BK _ #[.int .i64 (off:Int),.int .i64 (len:Int),.string ⟨data.toArray⟩] _ _ from HK4.out)
     go_wp2_with fail
     (with_reducible refine (HC.out).mono ?_)
     rintro e u5 ⟨rfl,hb⟩
     have HB5:=hid (HB4.out.trans (hb.mono HB4.out.size))
     have HK5:=hid (HK4.out.below hb)
     clear hb HC HB4 HK4 k0 k1 k2
     by_cases hz1:65536 < z + p
     case pos=>
      have hz2:(65536:Int) - (p:Int) < (z:Int):=by omega
      have hz3:IntKind.i64.wrap ((65536:Int) - (p:Int))=(65536:Int) - (p:Int):=wrap_i64 (by omega) (by omega)
      have HRR:Hid (R=4):=hid (by rw [HST.out,if_pos hz1])
      clear HST HNX
      go_wp2_with fail
      go_ret
      exact ⟨by rw [HRR.out]; rfl,HB5.out⟩
     have hz2:¬ (65536:Int) - (p:Int) < (z:Int):=by omega
     have hz3:IntKind.i64.wrap ((65536:Int) - (p:Int))=(65536:Int) - (p:Int):=wrap_i64 (by omega) (by omega)
     have hz4:IntKind.i64.wrap ((p:Int) + (z:Int))=((p + z:Nat):Int):=by rw [wrap_i64 (by omega) (by omega)]; omega
     have HE2:Hid (Chk n l (k + 1) (p + z)):=hid (((HNX.out (p + z)).resolve_left hz1) rfl (by rw [HST.out,if_neg hz1]))
     clear hz1 HST HNX
     have HC:=hid (HC3.out u5)
     obtain ⟨k0,k1,k2⟩:=BK.c3 (show BK _ #[.int .i64 (off:Int),.int .i64 (len:Int),.string ⟨data.toArray⟩] _ _ from HK5.out)
     go_wp2_with fail
     (with_reducible refine (HC.out).mono ?_)
     rintro e u6 ⟨rfl,hb⟩
     have HB6:=hid (HB5.out.trans (hb.mono HB5.out.size))
     have HK6:=hid (HK5.out.below hb)
     clear hb HC HB5 HK5 k0 k1 k2
     go_wp2_with fail
     go_roundw
     case rel=>exact ⟨k + 1,p + z,by omega,by go_num,by go_num,HB6,HE2⟩
     case measure=>simp [intOf] <;> omega
  ·have hki:¬ (k:Int) < (m:Int):=by omega
   have HRR:Hid (R=0):=hid (by rw [HR1.out]; exact HE.out.fin (by rw [<-HN.out]; omega))
   clear HE HR1
   go_wp2_with fail
   go_ret
   exact ⟨by rw [HRR.out]; rfl,HB.out⟩
theorem form_any (o:Dop) (w:World):Calls Tryz.prog 144 #[o.val] w fun e w'=>e = .returned (.bool (copyO o || insO o))/\Below w.heap.size w w':=by
 have HR:Hid ((copyO o || insO o)=_):=hid (by rw [copyO_is,insO_is])
 generalize (copyO o || insO o)=R at HR
 obtain ⟨off,len,data⟩:=o
 simp only [Dop.val] at HR ⊢
 have hpos:0<=(len:Int):=by omega
 generalize (off:Int)=fo at HR
 generalize (len:Int)=le at HR hpos
 have HB0:Hid (Below w.heap.size w (w.alloc (.cells #[.int .i64 fo,.int .i64 le,.string ⟨data.toArray⟩] 180))):=hid ((Below.refl _ w).alloc (Nat.le_refl _) _)
 by_cases hl:0 < le
 ·have hl0:(le == 0)=false:=by simp; omega
  cases hd:data.isEmpty with
  | true=>
   have HR2:Hid (R=true):=hid (by rw [HR.out,hd,hl0]; simp [hl])
   clear HR
   go_enter Tryz.func144,Tryz.ntmps144
   go_wp2_with fail
   go_ret
   exact ⟨by rw [HR2.out]; rfl,HB0.out⟩
  | false=>
   have HR2:Hid (R=false):=hid (by rw [HR.out,hd,hl0]; simp [hl])
   clear HR
   go_enter Tryz.func144,Tryz.ntmps144
   go_wp2_with fail
   go_ret
   exact ⟨by rw [HR2.out]; rfl,HB0.out⟩
 ·obtain rfl:le=0:=by omega
  cases hf:(fo == 0) with
  | false=>
   have HR2:Hid (R=false):=hid (by rw [HR.out,hf]; simp)
   clear HR
   go_enter Tryz.func144,Tryz.ntmps144
   go_wp2_with fail
   go_ret
   exact ⟨by rw [HR2.out]; rfl,HB0.out⟩
  | true=>
   cases hd:data.isEmpty with
   | true=>
    have HR2:Hid (R=false):=hid (by rw [HR.out,hf,hd]; simp)
    clear HR
    go_enter Tryz.func144,Tryz.ntmps144
    go_wp2_with fail
    go_ret
    exact ⟨by rw [HR2.out]; rfl,HB0.out⟩
   | false=>
    have HR2:Hid (R=true):=hid (by rw [HR.out,hf,hd]; simp)
    clear HR
    go_enter Tryz.func144,Tryz.ntmps144
    go_wp2_with fail
    go_ret
    exact ⟨by rw [HR2.out]; rfl,HB0.out⟩
theorem rdcheck_any (a:Option Addr) (l:List Dop) (c n:Nat) (w:World) (hl:GIn opCs 3 w.heap.size w a l) (hn:(n:Int)<=9223372036854775807) (hll:(l.length:Int)<=9223372036854775807) (hs:∀ o ∈ l,o.data.length<=1099511627776/\o.len<=1099511627776/\o.off<=1099511627776) :
  Calls Tryz.prog 122 #[.slice a l.length c,.int .i64 (n:Int)] w fun e w'=>e = .returned (.int .i64 (checkD l n))/\Below w.heap.size w w':=by
 obtain ⟨R,hR⟩:∃ R,R=checkD l n:=⟨_,rfl⟩
 rw [<-hR]
 unfold checkD at hR
 have HR:=hid hR
 obtain ⟨m,hm⟩:∃ m,m=l.length:=⟨_,rfl⟩
 rw [<-hm] at hll ⊢
 have HN:=hid hm
 have HL:=hid hl
 have HS:=hid hs
 clear hR hm hl hs
 by_cases hbig:65536 < n
 ·have hbi:(65536:Int) < (n:Int):=by omega
  have hb0:¬ (n:Int) < 0:=by omega
  have HR2:Hid (R=2):=hid (by rw [HR.out,if_pos hbig])
  have HB:=hid (Below.refl w.heap.size w)
  clear HR hbig
  go_enter Tryz.func122,Tryz.ntmps122
  go_wp2_with fail
  go_ret
  exact ⟨by rw [HR2.out]; rfl,HB.out⟩
 have hbi:¬ (65536:Int) < (n:Int):=by omega
 have hb0:¬ (n:Int) < 0:=by omega
 have HR1:Hid (R=chkO n l 0):=hid (by rw [HR.out,if_neg hbig])
 clear HR hbig
 go_enter Tryz.func122,Tryz.ntmps122
 go_wp2_with fail
 go_loopw [6,5] (fun i s wr=>∃ k p:Nat,k<=m/\i = .int .i64 (k:Int)/\s = .int .i64 (p:Int)/\Hid (Below w.heap.size w wr)/\Hid (Chk n l k p)) (fun i _ _=>m - (intOf i).toNat)
 case atStart=>exact ⟨0,0,by omega,rfl,rfl,hid (Below.refl _ _),hid (Chk.start n l)⟩
 case round=>
  obtain ⟨k,p,hk,rfl,rfl,HB,HE⟩:=hrel
  have hp:=HE.out.2
  by_cases hlt:k < m
  ·have h1:k < l.length:=by rw [<-HN.out]; exact hlt
   have hki:(k:Int) < (m:Int):=by omega
   obtain ⟨b0,of0,haa,hbb,q0,q1,q2⟩:=op_cells (HL.out.ahead HB.out) h1
   have hgin:=HL.out.ahead HB.out
   subst haa
   have HST:Hid (R=_):=hid (HR1.out.trans (HE.out.at h1))
   have HNX:Hid (∀ q,65536 < sizeO l[k] + p\/(q=p + sizeO l[k]->R=chkO n (l.drop (k + 1)) q->Chk n l (k + 1) q)):=hid (fun q=>by
    by_cases e:65536 < sizeO l[k] + p
    ·exact .inl e
    ·exact .inr (fun h2 h3=>⟨by rw [<-HR1.out]; exact h3,by omega⟩))
   have hsm:=HS.out _ (List.getElem_mem h1)
   have HCL:Hid (∀ W',Below wr.heap.size wr W'->W'.cell? ⟨b0,of0 + k * 3,none⟩=some (.int .i64 (l[k].off:Int))/\W'.cell? ⟨b0,of0 + k * 3 + 1,none⟩=some (.int .i64 (l[k].len:Int))/\W'.cell? ⟨b0,of0 + k * 3 + 2,none⟩=some (.string ⟨l[k].data.toArray⟩)):=hid (fun W' hW=>by
    exact ⟨(hW.cell (p:=⟨b0,of0 + k * 3,none⟩) hbb).trans q0,(hW.cell (p:=⟨b0,of0 + k * 3 + 1,none⟩) hbb).trans q1,(hW.cell (p:=⟨b0,of0 + k * 3 + 2,none⟩) hbb).trans q2⟩)
   have hform:copyO l[k]=true->sizeO l[k]=l[k].len + l[k].data.length:=fun h=>by
    unfold copyO at h; unfold sizeO
    simp only [Bool.and_eq_true,decide_eq_true_eq] at h
    rw [if_pos h.1,h.2]; simp
   have hins:insO l[k]=true->sizeO l[k]=l[k].len + l[k].data.length/\l[k].len=0/\l[k].off=0:=fun h=>by
    unfold insO at h; unfold sizeO
    simp only [Bool.and_eq_true,decide_eq_true_eq] at h
    rw [if_neg (by omega),h.1.1]; exact ⟨by omega,rfl,h.1.2⟩
   generalize l[k]=o at q0 q1 q2 HST HNX hsm HCL hform hins
   have HC1:=hid (form_any o wr)
   obtain ⟨cb,hcb⟩:∃ b,b=copyO o:=⟨_,rfl⟩
   obtain ⟨ib,hib⟩:∃ b,b=insO o:=⟨_,rfl⟩
   obtain ⟨z,hz⟩:∃ z,z=sizeO o:=⟨_,rfl⟩
   rw [<-hcb,<-hib] at HC1
   rw [<-hcb,<-hib,<-hz] at HST
   rw [<-hz] at HNX
   rw [<-hcb,<-hz] at hform
   rw [<-hib,<-hz] at hins
   obtain ⟨off,len,data⟩:=o
   simp only [Dop.val] at HC1
   simp only at q0 q1 q2 HST HNX hsm HCL hform hins
   have hdl:=ba_len data
   obtain ⟨dl,hdd⟩:∃ dl,dl=data.length:=⟨_,rfl⟩
   rw [<-hdd] at hdl hsm hform hins
   have HHF:=hid (show cb=true\/ib=true->z=len + dl from fun h=>h.elim hform (fun h=>(hins h).1))
   have HHI:=hid (show cb=false->ib=true->len=0/\off=0 from fun _ h=>(hins h).2)
   have hlb:(len:Int)<=1099511627776/\(off:Int)<=1099511627776/\(dl:Int)<=1099511627776:=by omega
   clear HE hcb hib hz hbb hdd hform hins hsm HL HS hgin
   go_wp2_with fail
   (with_reducible refine (HC1.out).mono ?_)
   rintro e u1 ⟨rfl,hb⟩
   have HB1:=hid (HB.out.trans (hb.mono HB.out.size))
   obtain ⟨m0,m1,m2⟩:=HCL.out u1 hb
   have HCD:Hid (∀ d,(u1.drewN d).cell? ⟨b0,of0 + k * 3,none⟩=some (.int .i64 (off:Int))/\(u1.drewN d).cell? ⟨b0,of0 + k * 3 + 1,none⟩=some (.int .i64 (len:Int))/\(u1.drewN d).cell? ⟨b0,of0 + k * 3 + 2,none⟩=some (.string ⟨data.toArray⟩)):=hid (fun d=>HCL.out _ (below_drewN hb d))
   clear hb HC1 HB q0 q1 q2
   cases hform:(cb || ib) with
   | false=>
    have hc:cb=false/\ib=false:=by simpa using hform
    have HRR:Hid (R=1):=hid (by rw [HST.out,if_pos hc])
    clear HST HNX HCD
    go_wp2_with fail
    go_ret
    exact ⟨by rw [HRR.out]; rfl,HB1.out⟩
   | true=>
    have hc:cb=true\/ib=true:=by simpa using hform
    have HZ:=hid (HHF.out hc)
    have HRNG:Hid ((n < len\/n < off + len)->R=2):=hid (fun h=>by
     have h2:cb=true:=by
      rcases hc with h3 | h3
      ·exact h3
      ·cases hcb:cb with
       | true=>rfl
       | false=>have:=HHI.out hcb h3; omega
     rw [HST.out,if_neg (by rw [h2]; simp),if_pos ⟨h2,h⟩])
    have HSUM:Hid (¬ (n < len\/n < off + len)->R=if 65536 < z + p then 4 else chkO n (l.drop (k + 1)) (p + z)):=hid (fun h=>by
     rw [HST.out,if_neg (fun e=>by rw [e.1,e.2] at hc; simp at hc),if_neg (fun e=>h e.2)])
    have g0:¬ (off:Int) < 0:=by omega
    clear HST hc hform HHF HHI
    by_cases h3:n < len
    case pos=>
     have g1:(n:Int) < (len:Int):=by omega
     have HRR:=hid (HRNG.out (.inl h3))
     clear HRNG HSUM HNX HZ g1
     go_wp2_with fail
     go_quiet (fail)
     go_wp2_with fail
     go_ret
     exact ⟨by rw [HRR.out]; rfl,below_drewN HB1.out _⟩
    have g1:¬ (n:Int) < (len:Int):=by omega
    have g2:IntKind.i64.wrap ((n:Int) - (len:Int))=(n:Int) - (len:Int):=wrap_i64 (by omega) (by omega)
    by_cases h4:n < off + len
    case pos=>
     have g3:(n:Int) - (len:Int) < (off:Int):=by omega
     have HRR:=hid (HRNG.out (.inr h4))
     clear HRNG HSUM HNX h4 HZ
     go_wp2_with fail
     go_quiet (fail)
     go_wp2_with fail
     go_ret
     exact ⟨by rw [HRR.out]; rfl,below_drewN HB1.out _⟩
    have g3:¬ (n:Int) - (len:Int) < (off:Int):=by omega
    have HST:=hid (HSUM.out (by omega))
    have hz0:=HZ.out
    have g4:IntKind.i64.wrap ((p:Int) + (len:Int))=(p:Int) + (len:Int):=wrap_i64 (by omega) (by omega)
    have g5:IntKind.i64.wrap ((p:Int) + (len:Int) + (dl:Int))=((p + z:Nat):Int):=by rw [wrap_i64 (by omega) (by omega)]; omega
    clear HRNG HSUM HZ
    by_cases h5:65536 < z + p
    case pos=>
     have g6:(65536:Int) < ((p + z:Nat):Int):=by omega
     have HRR:Hid (R=4):=hid (by rw [HST.out,if_pos h5])
     clear HST HNX h5 hz0
     go_wp2_with fail
     go_quiet (fail)
     go_wp2_with fail
     go_quiet (fail)
     go_wp2_with fail
     go_ret
     exact ⟨by rw [HRR.out]; rfl,below_drewN HB1.out _⟩
    have g6:¬ (65536:Int) < ((p + z:Nat):Int):=by omega
    have HE2:Hid (Chk n l (k + 1) (p + z)):=hid (((HNX.out (p + z)).resolve_left h5) rfl (by rw [HST.out,if_neg h5]))
    clear HST HNX h5 hz0
    go_wp2_with fail
    go_quiet (fail)
    go_wp2_with fail
    go_quiet (fail)
    go_wp2_with fail
    go_roundw
    case rel=>exact ⟨k + 1,p + z,by omega,by go_num,rfl,hid (below_drewN HB1.out _),HE2⟩
    case measure=>simp [intOf] <;> omega
  ·have hki:¬ (k:Int) < (m:Int):=by omega
   have HRR:Hid (R=0):=hid (by rw [HR1.out]; exact HE.out.fin (by rw [<-HN.out]; omega))
   clear HE HR1
   go_wp2_with fail
   go_ret
   exact ⟨by rw [HRR.out]; rfl,HB.out⟩
def GotOp (s:List UInt8) (w:World) (e:Ending) (w':World):Prop:=∃ (o:Dop) (k:Nat) (b:Bool),e = .returned (.tuple #[o.val,.int .i64 (k:Int),.bool b])/\(b=true->opS s=some (o,k)/\k<=s.length)/\(b=false->opS s=none)/\Below w.heap.size w w'
theorem opS_bad {s:List UInt8} {n u er:Int} (h:Cw.getI s=(n,u,er)) (he:er ≠ 0):opS s=none:=by unfold opS; rw [h]; simp only; rw [if_pos he]
theorem opS_copy {s:List UInt8} {n u:Nat} {m v er:Int} (h:Cw.getI s=((n:Int),(u:Int),0)) (hn:0 < n) (h2:Cw.getI (s.drop u)=(m,v,er)):opS s=if er ≠ 0 then none else some (⟨m.toNat,n,[]⟩,u + v.toNat):=by
 unfold opS; rw [h]; simp only [Int.toNat_natCast,h2]; rw [if_neg (by simp),if_pos (by omega)]
theorem opS_ins {s:List UInt8} {u:Nat} {x:List UInt8} {v er:Int} (h:Cw.getI s=(0,(u:Int),0)) (h2:Cw.getT (s.drop u)=(x,v,er)):opS s=if er ≠ 0 then none else some (⟨0,0,x⟩,u + v.toNat):=by
 unfold opS; rw [h]; simp only [Int.toNat_natCast,h2]; rw [if_neg (by simp),if_neg (by omega)]
theorem decodeOp_any (s:List UInt8) (w:World) (hl:(s.length:Int)<=140737488355328):Calls Tryz.prog 145 #[.string ⟨s.toArray⟩] w (GotOp s w):=by
 obtain ⟨n,u,er,hg⟩:∃ n u er,Cw.getI s=(n,u,er):=⟨_,_,_,rfl⟩
 have HG:=hid (fun X=>getInt_is (s:=⟨s.toArray⟩) (n:=n) (k:=u) (er:=er) (by simpa using hg) X)
 obtain ⟨h1,h2,h3,h4⟩:=getI_all hg
 obtain ⟨n0,rfl⟩:∃ n0:Nat,n=(n0:Int):=⟨n.toNat,by omega⟩
 obtain ⟨u0,rfl⟩:∃ u0:Nat,u=(u0:Int):=⟨u.toNat,by omega⟩
 by_cases he:er=0
 case neg=>
  have hne:(er != 0)=true:=by simpa using he
  have HO:=hid (opS_bad hg he)
  clear hg he
  go_enter Tryz.func145,Tryz.ntmps145
  go_wp2_with fail
  (with_reducible refine (HG.out _).mono ?_)
  rintro e w' ⟨rfl,rfl⟩
  go_wp2_with fail
  refine bodyPost_ret (v:=.tuple #[.agg #[.int .i64 0,.int .i64 0,.string ⟨#[]⟩],.int .i64 0,.bool false]) (by simp [results,Tryz.results145,go_sem]) rfl ?_
  refine ⟨⟨0,0,[]⟩,0,false,rfl,(fun h=>by cases h),fun _=>HO.out,?_⟩
  repeat (first | exact Below.refl _ _ | (refine Below.setCell ?_ (by simp) _) | (refine Below.alloc ?_ (by simp) _))
 case pos=>
 subst he
 have hul:u0<=s.length:=by omega
 have hsl:=fun W=>sl_lo s u0 hul W
 have hex:(⟨s.toArray⟩:ByteArray).extract u0 s.length=⟨(s.drop u0).toArray⟩:=by rw [ex_mid,List.take_of_length_le (by simp)]
 by_cases hn:0 < n0
 ·have hni:(0:Int) < (n0:Int):=by omega
  obtain ⟨m,v,er2,hg2⟩:∃ m v er2,Cw.getI (s.drop u0)=(m,v,er2):=⟨_,_,_,rfl⟩
  have HG2:=hid (fun X=>getInt_is (s:=⟨(s.drop u0).toArray⟩) (n:=m) (k:=v) (er:=er2) (by simpa using hg2) X)
  obtain ⟨k1,k2,k3,k4⟩:=getI_all hg2
  rw [List.length_drop] at k4
  obtain ⟨m0,rfl⟩:∃ m0:Nat,m=(m0:Int):=⟨m.toNat,by omega⟩
  obtain ⟨v0,rfl⟩:∃ v0:Nat,v=(v0:Int):=⟨v.toNat,by omega⟩
  have hwr:IntKind.i64.wrap ((u0:Int) + (v0:Int))=((u0 + v0:Nat):Int):=by rw [wrap_i64 (by omega) (by omega)]; omega
  have HO:=hid (opS_copy hg hn hg2)
  simp only [Int.toNat_natCast] at HO
  generalize s.drop u0=s2 at hsl hex HG2
  clear hg hg2 hn
  go_enter Tryz.func145,Tryz.ntmps145
  go_wp2_with fail
  (with_reducible refine (HG.out _).mono ?_)
  rintro e w' ⟨rfl,rfl⟩
  go_wp2_with fail
  (with_reducible refine (HG2.out _).mono ?_)
  rintro e w' ⟨rfl,rfl⟩
  go_wp2_with fail
  refine bodyPost_ret (v:=.tuple #[.agg #[.int .i64 (m0:Int),.int .i64 (n0:Int),.string ⟨#[]⟩],.int .i64 ((u0 + v0:Nat):Int),.bool (er2 == 0)]) (by simp [results,Tryz.results145,go_sem]) rfl ?_
  refine ⟨⟨m0,n0,[]⟩,u0 + v0,er2 == 0,rfl,fun h=>?_,fun h=>?_,?_⟩
  ·have e:er2=0:=by simpa using h
   exact ⟨by rw [HO.out,e,if_neg (by simp)],by omega⟩
  ·have e:er2 ≠ 0:=by simpa using h
   rw [HO.out,if_pos e]
  ·repeat (first | exact Below.refl _ _ | (refine Below.setCell ?_ (by simp) _) | (refine Below.alloc ?_ (by simp) _))
 ·obtain rfl:n0=0:=by omega
  obtain ⟨x,v,er2,hg2⟩:∃ x v er2,Cw.getT (s.drop u0)=(x,v,er2):=⟨_,_,_,rfl⟩
  have HG2:Hid (∀ X,Calls Tryz.prog 87 #[.string ⟨(s.drop u0).toArray⟩] X fun e w'=>e = .returned (.tuple #[.string ⟨x.toArray⟩,.int .i64 v,.int .i64 er2])/\X=w'):=hid (fun X=>by
   have:=getText_any ⟨(s.drop u0).toArray⟩ X (by rw [ba_len,List.length_drop]; omega)
   rw [show (⟨(s.drop u0).toArray⟩:ByteArray).data.toList=s.drop u0 by simp,hg2] at this
   exact this)
  obtain ⟨k3,k4,_⟩:=getT_all hg2
  rw [List.length_drop] at k4
  obtain ⟨v0,rfl⟩:∃ v0:Nat,v=(v0:Int):=⟨v.toNat,by omega⟩
  have hwr:IntKind.i64.wrap ((u0:Int) + (v0:Int))=((u0 + v0:Nat):Int):=by rw [wrap_i64 (by omega) (by omega)]; omega
  have HO:=hid (opS_ins hg hg2)
  simp only [Int.toNat_natCast] at HO
  generalize s.drop u0=s2 at hsl hex HG2
  clear hg hg2 hn
  go_enter Tryz.func145,Tryz.ntmps145
  go_wp2_with fail
  (with_reducible refine (HG.out _).mono ?_)
  rintro e w' ⟨rfl,rfl⟩
  go_wp2_with fail
  (with_reducible refine (HG2.out _).mono ?_)
  rintro e w' ⟨rfl,rfl⟩
  go_wp2_with fail
  refine bodyPost_ret (v:=.tuple #[.agg #[.int .i64 0,.int .i64 0,.string ⟨x.toArray⟩],.int .i64 ((u0 + v0:Nat):Int),.bool (er2 == 0)]) (by simp [results,Tryz.results145,go_sem]) rfl ?_
  refine ⟨⟨0,0,x⟩,u0 + v0,er2 == 0,rfl,fun h=>?_,fun h=>?_,?_⟩
  ·have e:er2=0:=by simpa using h
   exact ⟨by rw [HO.out,e,if_neg (by simp)],by omega⟩
  ·have e:er2 ≠ 0:=by simpa using h
   rw [HO.out,if_pos e]
  ·repeat (first | exact Below.refl _ _ | (refine Below.setCell ?_ (by simp) _) | (refine Below.alloc ?_ (by simp) _))
theorem rdnum_any {s:List UInt8} {n er:Int} {u:Nat} (hg:Cw.getI s=(n,(u:Int),er)) (w:World) (hl:(s.length:Int)<=140737488355328):Calls Tryz.prog 128 #[.string ⟨s.toArray⟩] w fun e w'=>e = .returned (.tuple #[.int .i64 n,.string ⟨(s.drop u).toArray⟩,.bool (er == 0)])/\Below w.heap.size w w':=by
 have HG:=hid (fun X=>refGetInt_is (s:=⟨s.toArray⟩) (n:=n) (k:=(u:Int)) (er:=er) (by simpa using hg) X)
 obtain ⟨h1,h2,h3,h4⟩:=getI_all hg
 have hul:u<=s.length:=by omega
 have hsl:=fun W=>sl_lo s u hul W
 have hex:(⟨s.toArray⟩:ByteArray).extract u s.length=⟨(s.drop u).toArray⟩:=by rw [ex_mid,List.take_of_length_le (by simp)]
 generalize s.drop u=s2 at hsl hex ⊢
 have HB:=hid (Below.refl w.heap.size w)
 clear hg
 go_enter Tryz.func128,Tryz.ntmps128
 go_wp2_with fail
 (with_reducible refine (HG.out _).mono ?_)
 rintro e w' ⟨rfl,rfl⟩
 go_wp2_with fail
 go_quiet (fail)
 go_wp2_with fail
 refine bodyPost_ret (v:=.tuple #[.int .i64 n,.string ⟨s2.toArray⟩,.bool (er == 0)]) (by simp [results,Tryz.results128,go_sem]) rfl ?_
 exact ⟨rfl,below_drewN HB.out _⟩
def GotD (w:World) (l:List Dop) (er:Int) (e:Ending) (w':World):Prop:=∃ a c,e = .returned (.tuple #[.slice a l.length c,.int .i64 er])/\GIn opCs 3 w'.heap.size w' a l/\Below w.heap.size w w'
theorem GotD.no {w w':World} (er:Int) (hb:Below w.heap.size w w'):GotD w [] er (.returned (.tuple #[.slice none 0 0,.int .i64 er])) w':=⟨none,0,rfl,GIn.nil _ _ _,hb⟩
theorem infoOp:(Tryz.prog.info? 180).map (fun i=>(i.zero,i.size,i.bytes))=some (some (.agg #[.int .i64 0,.int .i64 0,.string ⟨#[]⟩]),3,32):=by kernel_rfl
theorem append_op {base:Nat} {W:World} {v:Value} {n:Nat} {l:List Dop} (hn:n=l.length) (hown:W.ownsRow base 180 3 v n (gcs opCs l)) (x:Dop) (hlen:(n:Int)<=1000000) (hbase:base<=W.heap.size) :
  ∃ v' W',Hid ((Builtin.append_ #[143,143] 143 #[v,.slice (some ⟨W.heap.size,0,none⟩) 1 1]).run Tryz.prog (W.alloc (.cells (opCs x).toArray 180)) = .ok v' W')/\W'.ownsRow base 180 3 v' (n + 1) (gcs opCs (l ++ [x]))/\(W.alloc (.cells (opCs x).toArray 180)).grownBy W' v.ownBlock/\(v'.ownBlock=v.ownBlock\/v'.ownBlock=some (W.heap.size + 1)):=by
 obtain ⟨i0,hi,hz0,hz1,hz2⟩:=info_parts infoOp
 exact append_oneG layOp Tryz.underlying143 hi hz0 hz1 hz2 rfl hn hown x hlen (by decide) hbase
structure DeSt (s:List UInt8) (u k p:Nat) (l:List Dop):Prop where
 le:p<=s.length
 at_:OpsAt (s.drop u) k l (s.drop p)
 go:opsGo k (s.drop u) []=some (l,s.drop p)
theorem DeSt.start {s:List UInt8} {u:Nat} (h:u<=s.length):DeSt s u 0 u []:=⟨h,OpsAt.start _,rfl⟩
theorem DeSt.next {s:List UInt8} {u k p j:Nat} {l:List Dop} {o:Dop} (h:DeSt s u k p l) (ho:opS (s.drop p)=some (o,j)):DeSt s u (k + 1) (p + j) (l ++ [o]):=by
 have h1:=(opS_split ho).2.2.1
 rw [List.length_drop] at h1
 have h2:=h.le
 refine ⟨by omega,?_,?_⟩
 ·have:=h.at_.next ho
  rwa [List.drop_drop] at this
 ·have:=opsGo_snoc k h.go ho
  rwa [List.drop_drop] at this
theorem decD_bad {s:List UInt8} {n u er:Int} (h:Cw.getI s=(n,u,er)) (he:er ≠ 0):decD s=([],13):=by unfold decD; rw [h]; simp only; rw [if_pos he]
theorem decD_none {s:List UInt8} {n u:Nat} (h:Cw.getI s=((n:Int),(u:Int),0)) (he:opsGo n (s.drop u) []=none):decD s=([],13):=by unfold decD; rw [h]; simp only [Int.toNat_natCast,he]; simp
theorem decD_some {s:List UInt8} {n u:Nat} (h:Cw.getI s=((n:Int),(u:Int),0)) {l:List Dop} {r:List UInt8} (he:opsGo n (s.drop u) []=some (l,r)):decD s=if r ≠ []\/checkD l 65536 ≠ 0 then ([],13) else (l,0):=by unfold decD; rw [h]; simp only [Int.toNat_natCast,he]; rw [if_neg (by simp)]
theorem ddecode_any (s:List UInt8) (w:World) (hl:(s.length:Int)<=1000000):Calls Tryz.prog 126 #[.string ⟨s.toArray⟩] w (GotD w (decD s).1 (decD s).2):=by
 obtain ⟨n,u,er,hg⟩:∃ n u er,Cw.getI s=(n,u,er):=⟨_,_,_,rfl⟩
 have HG:=hid (fun X=>getInt_is (s:=⟨s.toArray⟩) (n:=n) (k:=u) (er:=er) (by simpa using hg) X)
 obtain ⟨h1,h2,h3,h4⟩:=getI_all hg
 obtain ⟨n0,rfl⟩:∃ n0:Nat,n=(n0:Int):=⟨n.toNat,by omega⟩
 obtain ⟨u0,rfl⟩:∃ u0:Nat,u=(u0:Int):=⟨u.toNat,by omega⟩
 have HB0:=hid (Below.refl w.heap.size w)
 by_cases he:er=0
 case neg=>
  have hne:(er != 0)=true:=by simpa using he
  rw [decD_bad hg he]
  clear hg he
  go_enter Tryz.func126,Tryz.ntmps126
  go_wp2_with fail
  (with_reducible refine (HG.out _).mono ?_)
  rintro e w' ⟨rfl,rfl⟩
  go_wp2_with fail
  go_ret2
  exact GotD.no 13 HB0.out
 case pos=>
 subst he
 have HNO:=hid (decD_none hg)
 have HSO:=hid (fun l r=>decD_some (l:=l) (r:=r) hg)
 have HST:=hid (DeSt.start (s:=s) (u:=u0) (by omega))
 obtain ⟨R,hR⟩:∃ R,R=decD s:=⟨_,rfl⟩
 rw [<-hR] at HNO HSO ⊢
 obtain ⟨m,hm⟩:∃ m,m=s.length:=⟨_,rfl⟩
 have HM:=hid hm
 have hsz:(⟨s.toArray⟩:ByteArray).size=m:=by rw [ba_len,hm]
 rw [<-hm] at hl h4
 have HSL:Hid (∀ p,p<=m->(∀ W,_)/\(⟨s.toArray⟩:ByteArray).extract p m=⟨(s.drop p).toArray⟩):=hid (fun p hp=>⟨fun W=>sl_lo s p (by rw [<-hm]; exact hp) W,by rw [ex_mid,List.take_of_length_le (by simp [hm])]⟩)
 clear hg hR hm
 go_enter Tryz.func126,Tryz.ntmps126
 go_wp2_with fail
 (with_reducible refine (HG.out _).mono ?_)
 rintro e w' ⟨rfl,rfl⟩
 go_wp2_with fail
 go_loopw [5,7,20] (fun a v i wr=>∃ (k p:Nat) (ls:List Dop),k<=n0/\a = .int .i64 (p:Int)/\i = .int .i64 (k:Int)/\Hid (DeSt s u0 k p ls)/\Hid (wr.ownsRow w.heap.size 180 3 v k (gcs opCs ls))/\Hid (Below w.heap.size w wr)) (fun _ _ i _=>n0 - (intOf i).toNat)
 case atStart=>exact ⟨0,u0,[],by omega,rfl,rfl,HST,hid (World.ownsRow_nil _ _ _ _),HB0⟩
 case round=>
  clear HST HB0
  obtain ⟨k,p,ls,hk,rfl,rfl,HD,HO,HB⟩:=hrel
  obtain ⟨va,vc,rfl,hvc⟩:=ownsRow_sliceN HO.out
  have hpm:p<=m:=by rw [HM.out]; exact HD.out.le
  have hlen:(k:Int)<=1000000/\ls.length=k:=by
   have h5:=HD.out.at_.room
   have h6:=HM.out
   rw [List.length_drop,List.length_drop] at h5
   exact ⟨by omega,HD.out.at_.len⟩
  by_cases hlt:k < n0
  ·have hkn:(k:Int) < (n0:Int):=by omega
   obtain ⟨hsl,hex⟩:=HSL.out p hpm
   have HOP:=hid (decodeOp_any (s.drop p) wr (by rw [List.length_drop]; have:=HM.out; omega))
   have hdl:(s.drop p).length + p=m:=by rw [List.length_drop]; have:=HM.out; omega
   have HBAD:Hid (opS (s.drop p)=none->R=([],13)):=hid (fun h=>HNO.out (opsGo_none k HD.out.go hlt h))
   have HNX:=hid (fun o j h=>HD.out.next (o:=o) (j:=j) h)
   generalize s.drop p=s2 at hsl hex HOP HBAD HNX hdl
   have HDL:=hid hdl
   clear hdl
   go_wp2_with fail
   (with_reducible refine (HOP.out).mono ?_)
   rintro e u1 ⟨o,j,b,rfl,ht,hf,hb⟩
   have HB1:=hid (HB.out.trans (hb.mono HB.out.size))
   have HO1:=hid (own_below HO.out hb)
   cases b with
   | false=>
    have HR:=hid (HBAD.out (hf rfl))
    have HB2:Hid (Below w.heap.size w (u1.alloc (.cells (opCs o).toArray 180))):=hid (HB1.out.alloc HB1.out.size _)
    obtain ⟨off,len,data⟩:=o
    simp only [Dop.val,opCs] at HB2 ⊢
    clear ht hf hb HOP HB HO HO1 HNX HBAD hsl hex
    go_wp2_with fail
    go_ret2
    rw [HR.out]
    exact GotD.no 13 HB2.out
   | true=>
    obtain ⟨hto,hjl⟩:=ht rfl
    have HD2:=hid (HNX.out o j hto)
    have hpj:(p:Int) + (j:Int)<=1000000:=by have:=HDL.out; omega
    have hwr:IntKind.i64.wrap ((p:Int) + (j:Int))=((p + j:Nat):Int):=by rw [wrap_i64 (by omega) (by omega)]; omega
    obtain ⟨u2,hu2⟩:∃ u2,u2=u1.alloc (.cells (opCs o).toArray 180):=⟨_,rfl⟩
    have hbu:Below u1.heap.size u1 u2:=by rw [hu2]; exact (Below.refl _ _).alloc (Nat.le_refl _) _
    have HB2:=hid (HB1.out.trans (hbu.mono HB1.out.size))
    have hsz2:u2.heap.size=u1.heap.size + 1:=by rw [hu2]; simp
    obtain ⟨v',W',hrun,hown',hg',_⟩:=append_op hlen.2.symm (own_below HO1.out hbu) o hlen.1 HB2.out.size
    have HB4:Hid (Below w.heap.size w W'):=hid ((HB2.out.alloc HB2.out.size _).grown hg' (by have:=HB2.out.size; simp; omega) (fun i hi=>by have:=(HO1.out.lt i hi).1; omega))
    rw [hu2] at hrun
    rw [World.size_alloc] at hrun
    have HRUN:=hid hrun
    have HO4:=hid hown'
    obtain ⟨off,len,data⟩:=o
    simp only [Dop.val,opCs] at HRUN ⊢
    clear ht hf hb hto hjl HOP HB HO HO1 HNX HBAD hsl hex hrun hown' hg' hbu hsz2 hu2 HB1 HB2 HDL hlen hpj
    go_wp2_with (at_builtin; refine Lib.wpList_append_run _ rfl _ _ _ _ rfl _ _ rfl rfl _ _ HRUN.out ?_)
    go_roundw
    case rel=>exact ⟨k + 1,p + j,_,by omega,rfl,by go_num,HD2,HO4,HB4⟩
    case measure=>simp [intOf] <;> omega
  ·obtain rfl:k=n0:=by omega
   have hkn:¬ (k:Int) < (k:Int):=by omega
   have HR:=hid (HSO.out _ _ HD.out.go)
   obtain ⟨x0,hx0⟩:∃ x0,x0=wr:=⟨_,rfl⟩
   rw [<-hx0] at HB HO ⊢
   have HC:=hid (dcheck_any va ls vc 65536 x0 (own_gin layOp hlen.2.symm HO.out) (by decide) (by omega) (fun o ho=>by obtain ⟨a1,_,_,a2,a3⟩:=HD.out.at_.small o ho; exact ⟨by omega,a2,a3⟩))
   rw [hlen.2,show ((65536:Nat):Int)=65536 from rfl] at HC
   have HLE:=hid hlen.2
   clear hx0 HNO HSO hlen
   by_cases hpe:p=m
   ·subst hpe
    have HR2:Hid (R=if checkD ls 65536 ≠ 0 then ([],13) else (ls,0)):=hid (by
     rw [HR.out,List.drop_of_length_le (by have:=HM.out; omega)]
     by_cases e:checkD ls 65536=0 <;> simp [e])
    generalize checkD ls 65536=ce at HC HR2
    clear HR HSL
    go_wp2_with fail
    (with_reducible refine (HC.out).mono ?_)
    rintro e u1 ⟨rfl,hb⟩
    have HB1:=hid (HB.out.trans (hb.mono HB.out.size))
    have HI1:=hid (own_gin layOp HLE.out.symm (own_below HO.out hb))
    clear hb HC HB HO
    by_cases hce:ce=0
    ·subst hce
     have HR3:Hid (R=(ls,0)):=hid (by rw [HR2.out]; simp)
     clear HR2
     go_wp2_with fail
     go_ret2
     rw [HR3.out]
     exact ⟨va,vc,by rw [HLE.out]; rfl,HI1.out,HB1.out⟩
    ·have hne:(ce != 0)=true:=by simpa using hce
     have HR3:Hid (R=([],13)):=hid (by rw [HR2.out,if_pos hce])
     clear HR2 hce
     go_wp2_with fail
     go_ret2
     rw [HR3.out]
     exact GotD.no 13 HB1.out
   ·have hpe2:((p:Int) != (m:Int))=true:=by simp; omega
    have HR3:Hid (R=([],13)):=hid (by
     rw [HR.out,if_pos (.inl (fun e=>hpe (by
      have h5:=congrArg List.length e
      rw [List.length_drop,List.length_nil] at h5
      have:=HM.out
      omega)))])
    clear HR HSL HC
    go_wp2_with fail
    go_ret2
    rw [HR3.out]
    exact GotD.no 13 HB.out
structure BW (w w0:World) (b:Nat) (l:List UInt8) (wr:World):Prop where
 bld:Lib.IsBuilderF 125 5 w.heap.size b (Lib.byteCells l) wr
 bel:Below w.heap.size w wr
 kept:Kept b w0 wr
theorem bldF_below {T e:TypeId} {B b:Nat} {bs:List Value} {W X:World} (h:Lib.IsBuilderF T e B b bs W) (hb:Below W.heap.size W X):Lib.IsBuilderF T e B b bs X:=by
 have key:∀ p,Lib.BuilderAtF T e B b p bs W->Lib.BuilderAtF T e B b p bs X:=by
  rintro p ⟨hB,v,hbk,hown,hne⟩
  refine ⟨hB,v,(hb.block b (Array.getElem?_eq_some_iff.1 hbk).1).trans hbk,hown.kept (row:=none) ⟨hb.os,hb.tape,hb.output,hb.size,fun k hk _=>hb.block k hk⟩ ?_,hne⟩
  cases h2:v.ownBlock with
  | none=>exact .inl rfl
  | some k=>exact .inr (by simp)
 exact h.elim (fun x=>.inl (key _ x)) (fun x=>.inr (key _ x))
theorem BW.below {w w0 wr x:World} {b:Nat} {l:List UInt8} (h:BW w w0 b l wr) (hb:Below wr.heap.size wr x):BW w w0 b l x:=
 ⟨bldF_below h.bld hb,h.bel.trans (hb.mono h.bel.size),kept_below h.kept hb⟩
theorem BW.wrote {w w0 wr x:World} {b:Nat} {l l':List UInt8} (h:BW w w0 b l wr) (h1:Lib.IsBuilderF 125 5 w.heap.size b (Lib.byteCells l') x) (h2:Below w.heap.size wr x) (h3:Kept b wr x):BW w w0 b l' x:=
 ⟨h1,h.bel.trans h2,h.kept.trans h3⟩
theorem BW.block {w w0 wr:World} {b:Nat} {l:List UInt8} (h:BW w w0 b l wr) {k:Nat} {cs:Array Value} {t:TypeId} {fz:Nat × Nat} (hk:w0.heap[k]? = some (.cells cs t fz)) (hkb:k ≠ b) (ht:t ≠ 5):wr.heap[k]? = some (.cells cs t fz):=
 h.kept k _ hk (fun e=>hkb (Option.some.inj e)) (fun c f e=>by cases e; exact ht rfl)
theorem BW.anew {w w0 wr:World} {b:Nat} {l:List UInt8} (h:BW w w0 b l wr):BW w wr b l wr:=⟨h.bld,h.bel,Lib.OthersKept.refl _ _ _⟩
theorem fresh_at {B b:Nat} {w:World} (hB:B<=b) (h:w.heap[b]? = some (.cells #[.pointer none,.slice none 0 0] 125 (0,0))):Lib.IsBuilderF 125 5 B b (Lib.byteCells []) w:=
 .inl ⟨hB,.slice none 0 0,h,World.ownsRowF_of (World.ownsRow_nil _ _ _ _),by simp [Value.ownBlock]⟩
theorem BW.start {w w0:World} {b:Nat} (hb:Below w.heap.size w w0) (hB:w.heap.size<=b) (h:w0.heap[b]? = some (.cells #[.pointer none,.slice none 0 0] 125 (0,0))):BW w w0 b [] w0:=⟨fresh_at hB h,hb,Lib.OthersKept.refl _ _ _⟩
theorem writeStr_bw {w w0 wr:World} {b:Nat} {l:List UInt8} (h:BW w w0 b l wr) (s:List UInt8) (hl:((l.length:Int)) + s.length<=140737488355328) :
  Calls Tryz.prog 68 #[.pointer (some ⟨b,0,none⟩),.string ⟨s.toArray⟩] wr fun e w'=>e = .returned (.tuple #[.int .i64 s.length,.nilIface])/\Hid (BW w w0 b (l ++ s) w'):=by
 refine (writeString_k w.heap.size b (Lib.byteCells l) ⟨s.toArray⟩ wr h.bld (by rw [Lib.byteCells_length,ba_len]; omega) h.bel.size).mono ?_
 rintro e x ⟨rfl,h1,h2,h3⟩
 refine ⟨by rw [ba_len],hid (h.wrote (.inr ?_) h2 h3)⟩
 rw [byteCells_append]
 have:=h1
 rwa [strCells_eq] at this
theorem bldStr_bw {w w0 wr:World} {b:Nat} {l:List UInt8} (h:BW w w0 b l wr) (h0:l ≠ []) :
  Calls Tryz.prog 71 #[.pointer (some ⟨b,0,none⟩)] wr fun e w'=>e = .returned (.string ⟨l.toArray⟩)/\Hid (BW w w0 b l w'):=by
 refine (bldString_k w.heap.size b l wr h.bld h0).mono ?_
 rintro e x ⟨rfl,h1,h2,h3⟩
 exact ⟨rfl,hid (h.wrote h1 h2 h3)⟩
theorem bldStr_fresh {b:Nat} {w:World} (h:w.heap[b]? = some (.cells #[.pointer none,.slice none 0 0] 125 (0,0))) :
  Calls Tryz.prog 71 #[.pointer (some ⟨b,0,none⟩)] w fun e w'=>e = .returned (.string ⟨#[]⟩)/\Below w.heap.size w w':=by
 have c1:w.drew.cell? ⟨b,1,none⟩=some (.slice none 0 0):=by
  have:w.drew.heap[b]? = some (.cells #[.pointer none,.slice none 0 0] 125 (0,0)):=h
  rw [Lib.cell_of_heap this]; rfl
 have hSD:(Builtin.unsafeSliceData_ #[34] 175 #[.slice none 0 0]).run Tryz.prog w.drew = .ok (.pointer none) w.drew:=Lib.run_unsafeSliceData_nil _ _ _ _ _
 have hUS:(Builtin.unsafeString_ #[175,3] 9 #[.pointer none,.int .i64 0]).run Tryz.prog w.drew = .ok (.string ⟨#[]⟩) w.drew:=Lib.run_unsafeString_none _ _ _ _ _
 go_enter Tryz.func71,Tryz.ntmps71
 go_wp2
 go_region
 all_goals (go_wp2; go_ret; exact ⟨rfl,Below.drew (Below.refl _ w)⟩)
end Go.Proofs.YtijkieiihpiljaaGreat
