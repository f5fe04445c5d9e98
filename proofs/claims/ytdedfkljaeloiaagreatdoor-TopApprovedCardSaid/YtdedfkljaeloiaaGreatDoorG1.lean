/- Joined texts: PkRw, TtPl, TtSt, TtVi, TtVj, TtVk. -/
import Derived.Test.YtdedfkljaeloiaaGreatDoorK4
import Derived.Test.YtdedfkljaeloiaaGreatDoorK8
import Derived.Test.YtdedfkljaeloiaaGreatDoorK9
import Derived.Test.YtdedfkljaeloiaaGreatDoorK5
/- Rows of elements of any kind: cells,reading,appending,storing. -/
set_option maxRecDepth 100000
set_option maxHeartbeats 16000000
open Go.Lib (hid)
namespace Go.Proofs.YtdedfkljaeloiaaGreatDoor
open Go.RowKit Go.Shelf
set_option linter.unusedVariables false
section
variable {α:Type} {f:α->List Value} {z:Nat}
def gcs (f:α->List Value) (l:List α):List Value:=l.flatMap f
structure Lay (f:α->List Value) (z:Nat):Prop where
 pos:0 < z
 len:∀ a,(f a).length=z
 one:∀ a,∀ v ∈ f a,v.oneCell' = true
theorem gcs_append (f:α->List Value) (a b:List α):gcs f (a ++ b)=gcs f a ++ gcs f b:=by simp [gcs]
theorem gcs_cons (f:α->List Value) (a:α) (b:List α):gcs f (a :: b)=f a ++ gcs f b:=by simp [gcs]
theorem gcs_one (f:α->List Value) (a:α):gcs f [a]=f a:=by simp [gcs]
theorem gcs_length (h:Lay f z):∀ l:List α,(gcs f l).length=l.length * z
 | []=>by simp [gcs]
 | a :: l=>by rw [gcs_cons,List.length_append,h.len,gcs_length h l,List.length_cons,Nat.add_mul]; omega
theorem gcs_ones (h:Lay f z) (l:List α):∀ v ∈ gcs f l,v.oneCell' = true:=by
 intro v hv
 simp only [gcs,List.mem_flatMap] at hv
 obtain ⟨a,_,hv⟩:=hv
 exact h.one a v hv
theorem gcs_at (h:Lay f z):∀ (l:List α) (i:Nat) (hi:i < l.length) (j:Nat),j < z->(gcs f l)[i * z + j]? = (f l[i])[j]?
 | [],i,hi,_,_=>by simp at hi
 | a :: l,0,_,j,hj=>by
  rw [gcs_cons,Nat.zero_mul,Nat.zero_add,List.getElem?_append_left (by rw [h.len]; exact hj)]
  rfl
 | a :: l,i + 1,hi,j,hj=>by
  rw [gcs_cons,List.getElem?_append_right (by rw [h.len,Nat.add_mul]; omega),h.len,show (i + 1) * z + j - z=i * z + j by rw [Nat.add_mul]; omega,gcs_at h l i (by simpa using hi) j hj]
  rfl
theorem gcs_set (h:Lay f z):∀ (l:List α) (i:Nat) (hi:i < l.length) (j:Nat) (v:Value) (b:α),j < z->f b=(f l[i]).set j v->(gcs f l).set (i * z + j) v=gcs f (l.set i b)
 | [],i,hi,_,_,_,_,_=>by simp at hi
 | a :: l,0,_,j,v,b,hj,hb=>by
  rw [gcs_cons,Nat.zero_mul,Nat.zero_add,List.set_append_left _ _ (by rw [h.len]; exact hj),List.set_cons_zero,gcs_cons,hb]
  rfl
 | a :: l,i + 1,hi,j,v,b,hj,hb=>by
  rw [gcs_cons,List.set_append_right _ _ (by rw [h.len,Nat.add_mul]; omega),h.len,show (i + 1) * z + j - z=i * z + j by rw [Nat.add_mul]; omega,List.set_cons_succ,gcs_cons,gcs_set h l i (by simpa using hi) j v b hj (by simpa using hb)]
def GIn (f:α->List Value) (z B:Nat) (W:World) (a:Option Addr) (l:List α):Prop:=
 ∀ i (h:i < l.length),∃ b off,a=some ⟨b,off,none⟩/\b < B/\∀ j v,(f l[i])[j]? = some v->W.cell? ⟨b,off + i * z + j,none⟩=some v
theorem GIn.nil (B:Nat) (W:World) (a:Option Addr):GIn f z B W a []:=fun i h=>by simp at h
theorem GIn.below {B B':Nat} {W W':World} {a:Option Addr} {l:List α} (h:GIn f z B W a l) (hb:Below B' W W') (hB:B<=B'):GIn f z B W' a l:=by
 intro i hi
 obtain ⟨b,off,ha,hlt,hc⟩:=h i hi
 exact ⟨b,off,ha,hlt,fun j v hv=>(hb.cell (p:=⟨b,off + i * z + j,none⟩) (by simp; omega)).trans (hc j v hv)⟩
theorem GIn.mono {B B':Nat} {W:World} {a:Option Addr} {l:List α} (h:GIn f z B W a l) (hB:B<=B'):GIn f z B' W a l:=by
 intro i hi
 obtain ⟨b,off,ha,hlt,hc⟩:=h i hi
 exact ⟨b,off,ha,by omega,hc⟩
theorem GIn.ahead {w W:World} {a:Option Addr} {l:List α} (h:GIn f z w.heap.size w a l) (hb:Below w.heap.size w W):GIn f z W.heap.size W a l:=(h.below hb (Nat.le_refl _)).mono hb.size
theorem GIn.store {W W':World} {tb:Nat} {cs:Array Value} {T:TypeId} {a:Option Addr} {l:List α} (h:GIn f z W.heap.size W a l) (hk:BK tb cs T W) (hz:0 < z) (hl:∀ a,(f a).length=z) (hn:∀ (j:Nat) (a:α),cs[j]? ≠ (f a)[0]?) (hg:W.grownBy W' (some tb)):GIn f z W'.heap.size W' a l:=by
 intro i hi
 obtain ⟨b,off,rfl,hb,hc⟩:=h i hi
 have hne:some b ≠ some tb:=fun e=>by
  cases e
  have h0:(f l[i])[0]? = some ((f l[i])[0]'(by rw [hl]; exact hz)):=List.getElem?_eq_getElem _
  have h1:=hc 0 _ h0
  rw [hk.cell] at h1
  exact hn _ l[i] (h1.trans h0.symm)
 exact ⟨b,off,rfl,Nat.lt_of_lt_of_le hb hg.size,fun j v hv=>(hg.cell_far ⟨b,off + i * z + j,none⟩ hb hne).trans (hc j v hv)⟩
theorem own_gin {W:World} {base:Nat} {e:TypeId} {a:Option Addr} {n c:Nat} {l:List α} (hf:Lay f z) (hn:n=l.length) (h:W.ownsRow base e z (.slice a n c) n (gcs f l)):GIn f z W.heap.size W a l:=by
 subst hn
 intro i hi
 rcases h.2 with ⟨h1,h2⟩ | ⟨g,cap,cur,h1,_,hg,_⟩
 ·omega
 ·cases h1
  refine ⟨g,0,rfl,(Array.getElem?_eq_some_iff.1 hg).1,fun j v hv=>?_⟩
  have hj:j < z:=by rw [<-hf.len l[i]]; exact (List.getElem?_eq_some_iff.1 hv).1
  have hji:i * z + j < l.length * z:=by
   have:(i + 1) * z<=l.length * z:=Nat.mul_le_mul_right _ hi
   rw [Nat.add_mul] at this; omega
  rw [Nat.zero_add,h.cellAt _ hji,gcs_at hf l i hi j hj,hv]
theorem append_oneG {base:Nat} {t e:TypeId} {i0:TypeInfo} {zv:Value} {bytes:Nat} (hf:Lay f z) (ht:Tryz.prog.underlying t=some (.slice e)) (hi:Tryz.prog.info? e=some i0) (hz0:i0.zero=some zv) (hz1:i0.size=z) (hz2:i0.bytes=bytes) (hzs:zv.cells.size=z)
  {W:World} {v:Value} {n:Nat} {l:List α} (hn:n=l.length) (hown:W.ownsRow base e z v n (gcs f l)) (x:α) (hlen:(n:Int)<=1000000) (hby:bytes<=1000) (hbase:base<=W.heap.size) :
  ∃ v' W',Hid ((Builtin.append_ #[t,t] t #[v,.slice (some ⟨W.heap.size,0,none⟩) 1 1]).run Tryz.prog (W.alloc (.cells (f x).toArray e)) = .ok v' W')/\W'.ownsRow base e z v' (n + 1) (gcs f (l ++ [x]))/\(W.alloc (.cells (f x).toArray e)).grownBy W' v.ownBlock/\(v'.ownBlock=v.ownBlock\/v'.ownBlock=some (W.heap.size + 1)):=by
 have hb:(n + 1) * bytes<=140737488355328:=Nat.le_trans (Nat.mul_le_mul (show n + 1<=1000001 by omega) hby) (by decide)
 obtain ⟨v',W',h1,h2,h3,h4⟩:=append_src (P:=Tryz.prog) (W.alloc (.cells (f x).toArray e)) base t t e i0 zv z bytes ht hi hz0 hz1 hz2 hzs hf.pos v n (gcs f l) (hown.alloc _) (some ⟨W.heap.size,0,none⟩) 1 1 (f x) (by rw [hf.len]; omega) (.inr ⟨_,rfl,fun j u hu=>by
  have hk:=BK.new W (f x).toArray e
  rw [Go.WideShapes.add_plain,hk.cell]
  simpa using hu⟩) (hf.one x) (by unfold maxLen; omega) hb (by simp; omega)
 refine ⟨v',W',hid h1,?_,h3,by simpa using h4⟩
 rw [gcs_append,gcs_one]
 exact h2
theorem own_setG {W:World} {base:Nat} {e:TypeId} {g n cap i j:Nat} {l:List α} (hf:Lay f z) (h:W.ownsRow base e z (.slice (some ⟨g,0,none⟩) n cap) n (gcs f l)) (hn:n=l.length) (hi:i < l.length) (hj:j < z) (v:Value) (b:α) (hb:f b=(f l[i]).set j v) :
  (W.setCell ⟨g,i * z + j,none⟩ v).ownsRow base e z (.slice (some ⟨g,0,none⟩) n cap) n (gcs f (l.set i b)):=by
 rw [<-gcs_set hf l i hi j v b hj hb]
 exact (h.stored (i * z + j) v).1
end
open Go.RowKit
structure Fl where
 path:List UInt8
 data:List UInt8
deriving DecidableEq
def cutS:List UInt8->List UInt8 × List UInt8 × Bool
 | []=>([],[],false)
 | c :: r=>if c=47 then ([],r,true) else (c :: (cutS r).1,(cutS r).2.1,(cutS r).2.2)
theorem cutS_law:∀ s:List UInt8,((cutS s).2.2=true/\s=(cutS s).1 ++ 47 :: (cutS s).2.1/\(47:UInt8) ∉ (cutS s).1)\/((cutS s).2.2=false/\s=(cutS s).1/\(cutS s).2.1=[]/\(47:UInt8) ∉ s)
 | []=>.inr ⟨rfl,rfl,rfl,by simp⟩
 | c :: r=>by
  rw [cutS]
  by_cases h:c=47
  ·rw [if_pos h]; exact .inl ⟨rfl,by simp [h],by simp⟩
  ·rw [if_neg h]
   rcases cutS_law r with ⟨h1,h2,h3⟩ | ⟨h1,h2,h3,h4⟩
   ·exact .inl ⟨h1,by simp only [List.cons_append]; rw [<-h2],by simp [h3,Ne.symm h]⟩
   ·exact .inr ⟨h1,by simp only; rw [<-h2],h3,by simp [h4,Ne.symm h]⟩
theorem cutS_len {s:List UInt8} (h:(cutS s).2.2=true):(cutS s).2.1.length < s.length:=by
 rcases cutS_law s with ⟨_,h2,_⟩ | ⟨h1,_⟩
 ·have:=congrArg List.length h2
  rw [List.length_append,List.length_cons] at this
  omega
 ·rw [h] at h1; cases h1
def pathF:Nat->List UInt8->Bool
 | 0,_=>false
 | n + 1,s=>nameB (cutS s).1 && (!(cutS s).2.2 || pathF n (cutS s).2.1)
def pathB (s:List UInt8):Bool:=decide (s.length<=100) && pathF (s.length + 1) s
theorem pathF_eq:∀ (n m:Nat) (s:List UInt8),s.length < n->s.length < m->pathF n s=pathF m s
 | 0,_,s,h,_=>by omega
 | _,0,s,_,h=>by omega
 | n + 1,m + 1,s,h1,h2=>by
  rw [pathF,pathF]
  cases hc:(cutS s).2.2 with
  | false=>rfl
  | true=>
   have:=cutS_len hc
   rw [pathF_eq n m _ (by omega) (by omega)]
abbrev ltS (a b:List UInt8):Prop:=Op.bytesLess a b=true
theorem less_lex:∀ (x y:List UInt8),Op.bytesLess x y=decide (x < y)
 | [],[]=>by simp [Op.bytesLess]
 | _ :: _,[]=>by simp [Op.bytesLess]
 | [],_ :: _=>by simp [Op.bytesLess]
 | a :: x,b :: y=>by
  rw [Op.bytesLess,less_lex x y]
  simp only [List.cons_lt_cons_iff]
  by_cases h1:a < b <;> by_cases h2:a=b <;> by_cases h3:x < y <;> simp [h1,h2,h3]
theorem ltS_iff {a b:List UInt8}:ltS a b ↔ a < b:=by unfold ltS; rw [less_lex]; simp
theorem ltS_trans {a b c:List UInt8} (h1:ltS a b) (h2:ltS b c):ltS a c:=ltS_iff.2 (List.lt_trans (ltS_iff.1 h1) (ltS_iff.1 h2))
theorem ltS_irrefl (a:List UInt8):¬ ltS a a:=fun h=>List.lt_irrefl a (ltS_iff.1 h)
theorem ltS_total (a b:List UInt8):ltS a b\/a=b\/ltS b a:=by
 rcases Classical.em (a < b) with h | h
 ·exact .inl (ltS_iff.2 h)
 ·rcases Classical.em (b < a) with h' | h'
  ·exact .inr (.inr (ltS_iff.2 h'))
  ·exact .inr (.inl (List.le_antisymm (List.not_lt.1 h') (List.not_lt.1 h)))
def AscF (l:List Fl):Prop:=l.Pairwise fun a b=>ltS a.path b.path
theorem ascF_ext:∀ {l m:List Fl},AscF l->AscF m->(∀ x,x ∈ l ↔ x ∈ m)->l=m
 | [],[],_,_,_=>rfl
 | [],y :: m,_,_,h=>absurd ((h y).2 (by simp)) (by simp)
 | x :: l,[],_,_,h=>absurd ((h x).1 (by simp)) (by simp)
 | x :: l,y :: m,h1,h2,h=>by
  have g1:=List.pairwise_cons.1 h1
  have g2:=List.pairwise_cons.1 h2
  have hxy:x=y:=by
   rcases List.mem_cons.1 ((h x).1 (by simp)) with e | hx
   ·exact e
   ·rcases List.mem_cons.1 ((h y).2 (by simp)) with e | hy
    ·exact e.symm
    ·exact absurd (ltS_trans (g1.1 y hy) (g2.1 x hx)) (ltS_irrefl _)
  subst hxy
  have key:∀ {l m:List Fl},(∀ b ∈ l,ltS x.path b.path)->(∀ z,z ∈ x :: l ↔ z ∈ x :: m)->∀ z,z ∈ l->z ∈ m:=fun {l m} hl hh z hz=>by
   rcases List.mem_cons.1 ((hh z).1 (List.mem_cons_of_mem _ hz)) with rfl | h
   ·exact absurd (hl _ hz) (ltS_irrefl _)
   ·exact h
  rw [ascF_ext g1.2 g2.2 (fun z=>⟨key g1.1 h z,key g2.1 (fun z=>(h z).symm) z⟩)]
theorem ascF_same {l:List Fl} (h:AscF l) {x y:Fl} (hx:x ∈ l) (hy:y ∈ l) (he:x.path=y.path):x=y:=by
 induction l with
 | nil=>cases hx
 | cons z l ih=>
  have g:=List.pairwise_cons.1 h
  rcases List.mem_cons.1 hx with e1 | h1
  ·rcases List.mem_cons.1 hy with e2 | h2
   ·rw [e1,e2]
   ·have:=g.1 y h2; rw [<-he,e1] at this; exact absurd this (ltS_irrefl _)
  ·rcases List.mem_cons.1 hy with e2 | h2
   ·have:=g.1 x h1; rw [he,e2] at this; exact absurd this (ltS_irrefl _)
   ·exact ih g.2 h1 h2
def withF:List Fl->Fl->List Fl
 | [],f=>[f]
 | x :: l,f=>if ltS x.path f.path then x :: withF l f else if x.path=f.path then f :: l else f :: x :: l
def lessF (l:List Fl) (s:List UInt8):List Fl:=l.filter fun x=>!decide (x.path=s)
def findF (l:List Fl) (s:List UInt8):Option (List UInt8):=(l.find? fun x=>decide (x.path=s)).map (·.data)
theorem withF_mem {l:List Fl} (h:AscF l) (f x:Fl):x ∈ withF l f ↔ x=f\/(x ∈ l/\x.path ≠ f.path):=by
 induction l with
 | nil=>simp [withF]
 | cons y l ih=>
  have g:=List.pairwise_cons.1 h
  rw [withF]
  by_cases h1:ltS y.path f.path
  ·rw [if_pos h1,List.mem_cons,List.mem_cons,ih g.2]
   constructor
   ·rintro (rfl | rfl | ⟨h2,h3⟩)
    ·exact .inr ⟨.inl rfl,fun e=>ltS_irrefl _ (e ▸ h1)⟩
    ·exact .inl rfl
    ·exact .inr ⟨.inr h2,h3⟩
   ·rintro (rfl | ⟨rfl | h2,h3⟩)
    ·exact .inr (.inl rfl)
    ·exact .inl rfl
    ·exact .inr (.inr ⟨h2,h3⟩)
  ·rw [if_neg h1]
   by_cases h2:y.path=f.path
   ·rw [if_pos h2,List.mem_cons,List.mem_cons]
    constructor
    ·rintro (rfl | hx)
     ·exact .inl rfl
     ·exact .inr ⟨.inr hx,fun e=>ltS_irrefl _ (show ltS x.path x.path by have:=g.1 x hx; rw [h2,<-e] at this; exact this)⟩
    ·rintro (rfl | ⟨rfl | hx,hne⟩)
     ·exact .inl rfl
     ·exact absurd h2 hne
     ·exact .inr hx
   ·rw [if_neg h2]
    simp only [List.mem_cons]
    have h3:ltS f.path y.path:=by
     rcases ltS_total f.path y.path with h | h | h
     ·exact h
     ·exact absurd h.symm h2
     ·exact absurd h h1
    constructor
    ·rintro (rfl | rfl | hx)
     ·exact .inl rfl
     ·exact .inr ⟨.inl rfl,h2⟩
     ·exact .inr ⟨.inr hx,fun e=>ltS_irrefl _ (show ltS x.path x.path by have:=ltS_trans h3 (g.1 x hx); rw [<-e] at this; exact this)⟩
    ·rintro (rfl | ⟨rfl | hx,_⟩)
     ·exact .inl rfl
     ·exact .inr (.inl rfl)
     ·exact .inr (.inr hx)
theorem withF_asc {l:List Fl} (h:AscF l) (f:Fl):AscF (withF l f):=by
 induction l with
 | nil=>simp [withF,AscF]
 | cons y l ih=>
  have g:=List.pairwise_cons.1 h
  rw [withF]
  by_cases h1:ltS y.path f.path
  ·rw [if_pos h1]
   refine List.pairwise_cons.2 ⟨fun x hx=>?_,ih g.2⟩
   rcases (withF_mem g.2 f x).1 hx with rfl | ⟨h2,_⟩
   ·exact h1
   ·exact g.1 x h2
  ·rw [if_neg h1]
   by_cases h2:y.path=f.path
   ·rw [if_pos h2]
    exact List.pairwise_cons.2 ⟨fun x hx=>by have:=g.1 x hx; rwa [h2] at this,g.2⟩
   ·rw [if_neg h2]
    have h3:ltS f.path y.path:=by
     rcases ltS_total f.path y.path with h | h | h
     ·exact h
     ·exact absurd h.symm h2
     ·exact absurd h h1
    refine List.pairwise_cons.2 ⟨fun x hx=>?_,h⟩
    rcases List.mem_cons.1 hx with rfl | hx
    ·exact h3
    ·exact ltS_trans h3 (g.1 x hx)
theorem lessF_asc {l:List Fl} (h:AscF l) (s:List UInt8):AscF (lessF l s):=List.Pairwise.filter _ h
theorem findF_some {l:List Fl} {s d:List UInt8} (h:findF l s=some d):(⟨s,d⟩:Fl) ∈ l:=by
 unfold findF at h
 cases hf:l.find? (fun x=>decide (x.path=s)) with
 | none=>rw [hf] at h; cases h
 | some x=>
  rw [hf] at h
  cases h
  have h1:=List.mem_of_find?_eq_some hf
  have h2:=List.find?_some hf
  simp only [decide_eq_true_eq] at h2
  rw [<-h2]
  exact h1
theorem findF_none {l:List Fl} {s:List UInt8} (h:findF l s=none):∀ x ∈ l,x.path ≠ s:=by
 unfold findF at h
 cases hf:l.find? (fun x=>decide (x.path=s)) with
 | none=>intro x hx; simpa using List.find?_eq_none.1 hf x hx
 | some x=>rw [hf] at h; cases h
abbrev Pa:=List UInt8
def firstS (x:Fl):Pa:=(cutS x.path).1
def deepS (x:Fl):Bool:=(cutS x.path).2.2
def restS' (x:Fl):Fl:=⟨(cutS x.path).2.1,x.data⟩
theorem deep_path {x:Fl} (h:deepS x=true):x.path=firstS x ++ 47 :: (restS' x).path/\(47:UInt8) ∉ firstS x:=by
 rcases cutS_law x.path with ⟨_,h2,h3⟩ | ⟨h1,_⟩
 ·exact ⟨h2,h3⟩
 ·unfold deepS at h; rw [h] at h1; cases h1
theorem flat_path {x:Fl} (h:deepS x=false):x.path=firstS x/\(47:UInt8) ∉ x.path:=by
 rcases cutS_law x.path with ⟨h1,_⟩ | ⟨_,h2,_,h4⟩
 ·unfold deepS at h; rw [h] at h1; cases h1
 ·exact ⟨h2,h4⟩
def insideS (l:List Fl) (nm:Pa):List Fl:=(l.filter fun x=>deepS x && decide (firstS x=nm)).map restS'
theorem inside_mem {l:List Fl} {nm:Pa} {y:Fl}:y ∈ insideS l nm ↔ ∃ x ∈ l,deepS x=true/\firstS x=nm/\restS' x=y:=by
 unfold insideS
 simp only [List.mem_map,List.mem_filter,Bool.and_eq_true,decide_eq_true_eq]
 constructor
 ·rintro ⟨x,⟨h1,h2,h3⟩,h4⟩; exact ⟨x,h1,h2,h3,h4⟩
 ·rintro ⟨x,h1,h2,h3,h4⟩; exact ⟨x,⟨h1,h2,h3⟩,h4⟩
theorem less_app:∀ (p a b:Pa),Op.bytesLess (p ++ a) (p ++ b)=Op.bytesLess a b
 | [],a,b=>rfl
 | c :: p,a,b=>by
  rw [List.cons_append,List.cons_append,Op.bytesLess,less_app p a b]
  simp
structure OkF (n:Nat) (l:List Fl):Prop where
 asc:AscF l
 path:∀ x ∈ l,pathF n x.path=true
 free:∀ x ∈ l,∀ y ∈ l,∀ r,y.path ≠ x.path ++ 47 :: r
theorem inside_asc {l:List Fl} (h:AscF l) (nm:Pa):AscF (insideS l nm):=by
 unfold insideS AscF
 rw [List.pairwise_map]
 refine (List.Pairwise.filter _ h).imp_of_mem (fun {a b} ha hb hab=>?_)
 simp only [List.mem_filter,Bool.and_eq_true,decide_eq_true_eq] at ha hb
 obtain ⟨_,a1,a2⟩:=ha
 obtain ⟨_,b1,b2⟩:=hb
 have e1:=(deep_path a1).1
 have e2:=(deep_path b1).1
 unfold ltS at hab ⊢
 rw [e1,e2,a2,b2,show nm ++ 47 :: (restS' a).path=(nm ++ [47]) ++ (restS' a).path by simp,show nm ++ 47 :: (restS' b).path=(nm ++ [47]) ++ (restS' b).path by simp,less_app] at hab
 exact hab
theorem OkF.inside {n:Nat} {l:List Fl} (h:OkF (n + 1) l) (nm:Pa):OkF n (insideS l nm):=by
 refine ⟨inside_asc h.asc nm,fun y hy=>?_,fun y hy z hz r e=>?_⟩
 ·obtain ⟨x,hx,h1,h2,rfl⟩:=inside_mem.1 hy
  have hp:=h.path x hx
  rw [pathF] at hp
  unfold deepS at h1
  rw [h1] at hp
  simp only [Bool.and_eq_true,Bool.not_true,Bool.false_or] at hp
  exact hp.2
 ·obtain ⟨x,hx,h1,h2,rfl⟩:=inside_mem.1 hy
  obtain ⟨w,hw,g1,g2,rfl⟩:=inside_mem.1 hz
  refine h.free x hx w hw r ?_
  rw [(deep_path h1).1,(deep_path g1).1,h2,g2,e]
  simp
theorem OkF.name {n:Nat} {l:List Fl} (h:OkF (n + 1) l) {x:Fl} (hx:x ∈ l):nameB (firstS x)=true:=by
 have hp:=h.path x hx
 rw [pathF,Bool.and_eq_true] at hp
 exact hp.1
def nameL (l:List Fl):List Fl:=l.foldl (fun acc x=>withF acc ⟨firstS x,[]⟩) []
def namesS (l:List Fl):List Pa:=(nameL l).map (·.path)
theorem nameGo_law:∀ (l acc:List Fl),AscF acc->(∀ x ∈ acc,x.data=[])->AscF (l.foldl (fun acc x=>withF acc ⟨firstS x,[]⟩) acc)/\(∀ x ∈ l.foldl (fun acc x=>withF acc ⟨firstS x,[]⟩) acc,x.data=[])/\∀ nm:Pa,(⟨nm,[]⟩:Fl) ∈ l.foldl (fun acc x=>withF acc ⟨firstS x,[]⟩) acc ↔ (⟨nm,[]⟩:Fl) ∈ acc\/∃ x ∈ l,firstS x=nm
 | [],acc,h1,h2=>⟨h1,h2,fun nm=>by simp⟩
 | y :: l,acc,h1,h2=>by
  rw [List.foldl_cons]
  have hm:=withF_mem h1 ⟨firstS y,[]⟩
  obtain ⟨g1,g2,g3⟩:=nameGo_law l (withF acc ⟨firstS y,[]⟩) (withF_asc h1 _) (fun x hx=>by
   rcases (hm x).1 hx with rfl | ⟨h,_⟩
   ·rfl
   ·exact h2 x h)
  refine ⟨g1,g2,fun nm=>?_⟩
  rw [g3 nm,hm]
  constructor
  ·rintro ((e | ⟨h,_⟩) | ⟨x,hx,e⟩)
   ·exact .inr ⟨y,by simp,by injection e with e1 _; exact e1.symm⟩
   ·exact .inl h
   ·exact .inr ⟨x,List.mem_cons_of_mem _ hx,e⟩
  ·rintro (h | ⟨x,hx,e⟩)
   ·by_cases e:nm=firstS y
    ·exact .inl (.inl (by rw [e]))
    ·exact .inl (.inr ⟨h,e⟩)
   ·rcases List.mem_cons.1 hx with rfl | hx
    ·exact .inl (.inl (by rw [e]))
    ·exact .inr ⟨x,hx,e⟩
theorem names_mem {l:List Fl} {nm:Pa}:nm ∈ namesS l ↔ ∃ x ∈ l,firstS x=nm:=by
 obtain ⟨g1,g2,g3⟩:=nameGo_law l [] List.Pairwise.nil (fun x hx=>by simp at hx)
 have h:=g3 nm
 simp only [List.not_mem_nil,false_or] at h
 rw [<-h]
 unfold namesS nameL
 rw [List.mem_map]
 constructor
 ·rintro ⟨x,hx,rfl⟩
  have:=g2 x hx
  obtain ⟨p,d⟩:=x
  simp only at this
  subst this
  exact hx
 ·intro hx; exact ⟨_,hx,rfl⟩
theorem names_asc (l:List Fl):(namesS l).Pairwise ltS:=by
 obtain ⟨g1,_,_⟩:=nameGo_law l [] List.Pairwise.nil (fun x hx=>by simp at hx)
 unfold namesS
 rw [List.pairwise_map]
 exact g1
def blobO (d:Pa):Ob:=⟨1,d,[],(0,0),[],[],0,[]⟩
def treeO (es:List Ent):Ob:=⟨2,[],es,(0,0),[],[],0,[]⟩
abbrev StR:=List Itm × (Int × Int) × Int
def badR (e:Int):StR:=([],(0,0),e)
def storeGo (f:List Itm->List Fl->StR) (l:List Fl):List Pa->List Itm->List Ent->StR
 | [],p,es=>putS p (treeO es)
 | nm :: r,p,es=>match findF l nm with
  | some d=>if (putS p (blobO d)).2.2 ≠ 0 then badR (putS p (blobO d)).2.2 else storeGo f l r (putS p (blobO d)).1 (es ++ [⟨nm,false,(putS p (blobO d)).2.1⟩])
  | none=>if (f p (insideS l nm)).2.2 ≠ 0 then badR (f p (insideS l nm)).2.2 else storeGo f l r (f p (insideS l nm)).1 (es ++ [⟨nm,true,(f p (insideS l nm)).2.1⟩])
def storeF:Nat->List Itm->List Fl->StR
 | 0,_,_=>badR 99
 | n + 1,p,l=>storeGo (storeF n) l (namesS l) p []
def digO (o:Ob):Int × Int:=digS (encodeS o).1
def itO (o:Ob):Itm:=⟨digO o,(encodeS o).1⟩
def entE (f:List Fl->List Itm × (Int × Int)) (l:List Fl) (nm:Pa):Ent:=match findF l nm with
 | some D=>⟨nm,false,digO (blobO D)⟩
 | none=>⟨nm,true,(f (insideS l nm)).2⟩
def itmE (f:List Fl->List Itm × (Int × Int)) (l:List Fl) (nm:Pa):List Itm:=match findF l nm with
 | some D=>[itO (blobO D)]
 | none=>(f (insideS l nm)).1
def pureF:Nat->List Fl->List Itm × (Int × Int)
 | 0,_=>([],(0,0))
 | n + 1,l=>((namesS l).flatMap (itmE (pureF n) l) ++ [itO (treeO ((namesS l).map (entE (pureF n) l)))],digO (treeO ((namesS l).map (entE (pureF n) l))))
theorem put_ok {p q:List Itm} {o:Ob} {d:Int × Int} (ha:Asc p) (h:putS p o=(q,d,0)):Asc q/\d=digO o/\(∀ y,y ∈ q ↔ y ∈ p\/y=itO o)/\(encodeS o).2=0:=by
 unfold putS at h
 by_cases he:(encodeS o).2=0
 ·rw [if_neg (by simpa using he)] at h
  by_cases hi:(insS p ⟨digS (encodeS o).1,(encodeS o).1⟩).2=0
  ·rw [if_neg (by simpa using hi)] at h
   obtain ⟨g1,g2,_⟩:=ins_law ha (show insS p ⟨digS (encodeS o).1,(encodeS o).1⟩=((insS p ⟨digS (encodeS o).1,(encodeS o).1⟩).1,0) from Prod.ext rfl hi)
   cases h
   exact ⟨g1,rfl,g2,he⟩
  ·rw [if_pos hi] at h
   exact absurd (congrArg (fun z=>z.2.2) h) hi
 ·rw [if_pos he] at h
  exact absurd (congrArg (fun z=>z.2.2) h) he
theorem store_pure:∀ (n:Nat) {l:List Fl} {p q:List Itm} {d:Int × Int},Asc p->storeF n p l=(q,d,0)->Asc q/\d=(pureF n l).2/\∀ y,y ∈ q ↔ y ∈ p\/y ∈ (pureF n l).1
 | 0,l,p,q,d,_,h=>by
  rw [storeF] at h
  exact absurd (congrArg (fun z=>z.2.2) h) (show (99:Int) ≠ 0 by decide)
 | n + 1,l,p,q,d,ha,h=>by
  rw [storeF] at h
  have key:∀ (names:List Pa) (es:List Ent) {p q:List Itm} {d:Int × Int},Asc p->storeGo (storeF n) l names p es=(q,d,0)->Asc q/\d=digO (treeO (es ++ names.map (entE (pureF n) l)))/\∀ y,y ∈ q ↔ y ∈ p\/y ∈ names.flatMap (itmE (pureF n) l) ++ [itO (treeO (es ++ names.map (entE (pureF n) l)))]:=by
   intro names
   induction names with
   | nil=>
    intro es p q d ha h
    rw [storeGo] at h
    obtain ⟨g1,g2,g3,_⟩:=put_ok ha h
    exact ⟨g1,by simpa using g2,fun y=>by rw [g3]; simp⟩
   | cons nm r ih=>
    intro es p q d ha h
    rw [storeGo] at h
    rw [List.map_cons,List.flatMap_cons]
    cases hf:findF l nm with
    | some D=>
     rw [hf] at h
     simp only at h
     have hE:entE (pureF n) l nm=⟨nm,false,digO (blobO D)⟩:=by unfold entE; rw [hf]
     have hI:itmE (pureF n) l nm=[itO (blobO D)]:=by unfold itmE; rw [hf]
     by_cases h1:(putS p (blobO D)).2.2=0
     ·rw [if_neg (by simpa using h1)] at h
      obtain ⟨g1,g2,g3,_⟩:=put_ok ha (show putS p (blobO D)=((putS p (blobO D)).1,(putS p (blobO D)).2.1,0) from Prod.ext rfl (Prod.ext rfl h1))
      rw [g2] at h
      obtain ⟨k1,k2,k3⟩:=ih _ g1 h
      rw [hE,hI]
      refine ⟨k1,by rw [k2,List.append_assoc]; rfl,fun y=>?_⟩
      rw [k3,g3,List.append_assoc,List.append_assoc]
      simp only [List.mem_append,List.mem_cons,List.not_mem_nil,or_false,List.cons_append,List.nil_append,or_assoc]
     ·rw [if_pos h1] at h
      exact absurd (congrArg (fun z=>z.2.2) h) h1
    | none=>
     rw [hf] at h
     simp only at h
     have hE:entE (pureF n) l nm=⟨nm,true,(pureF n (insideS l nm)).2⟩:=by unfold entE; rw [hf]
     have hI:itmE (pureF n) l nm=(pureF n (insideS l nm)).1:=by unfold itmE; rw [hf]
     by_cases h1:(storeF n p (insideS l nm)).2.2=0
     ·rw [if_neg (by simpa using h1)] at h
      obtain ⟨g1,g2,g3⟩:=store_pure n ha (show storeF n p (insideS l nm)=((storeF n p (insideS l nm)).1,(storeF n p (insideS l nm)).2.1,0) from Prod.ext rfl (Prod.ext rfl h1))
      rw [g2] at h
      obtain ⟨k1,k2,k3⟩:=ih _ g1 h
      rw [hE,hI]
      refine ⟨k1,by rw [k2,List.append_assoc]; rfl,fun y=>?_⟩
      rw [k3,g3,List.append_assoc,List.append_assoc]
      simp only [List.mem_append,List.mem_cons,List.not_mem_nil,or_false,List.cons_append,List.nil_append,or_assoc]
     ·rw [if_pos h1] at h
      exact absurd (congrArg (fun z=>z.2.2) h) h1
  obtain ⟨g1,g2,g3⟩:=key (namesS l) [] ha h
  rw [pureF]
  exact ⟨g1,g2,g3⟩
theorem get_item' {xs:List Itm} (ha:Asc xs) {o:Ob} (hx:itO o ∈ xs) (he:(encodeS o).2=0) (ho:OkO o):getS xs (digO o)=(o,0):=by
 obtain ⟨k,hk,hkx⟩:=List.getElem_of_mem hx
 have hd:xs[k].d=digO o:=by rw [hkx]; rfl
 have hh:hitB xs xs[k].d k=true:=by unfold hitB; rw [List.getElem?_eq_getElem hk]; simp
 obtain ⟨_,_,h⟩:=getS_hit (at_uniq ha hk rfl) hh
 rw [hd] at h
 rw [h,hkx]
 exact decode_put (s:=(encodeS o).1) (Prod.ext rfl he) ho
def VisL (f:(Int × Int)->Pa->List Fl->Prop) (Q:List Itm):List Ent->Pa->List Fl->Prop
 | [],_,V=>V=[]
 | e :: es,pre,V=>∃ V1 V2,V=V1 ++ V2/\(pre ++ e.name).length<=100/\(if e.dir=true then f e.d (pre ++ e.name ++ [47]) V1 else ∃ D,getS Q e.d=(blobO D,0)/\V1=[⟨pre ++ e.name,D⟩])/\VisL f Q es pre V2
def Vis (Q:List Itm):Nat->(Int × Int)->Pa->List Fl->Prop
 | 0,_,_,_=>False
 | n + 1,d,pre,V=>∃ es,getS Q d=(treeO es,0)/\(es=[]->pre=[])/\VisL (Vis Q n) Q es pre V
structure SzF (l:List Fl):Prop where
 len:l.length<=200
 dat:∀ x ∈ l,x.data.length<=60000
theorem SzF.inside {l:List Fl} (h:SzF l) (nm:Pa):SzF (insideS l nm):=by
 refine ⟨?_,fun y hy=>?_⟩
 ·unfold insideS
  rw [List.length_map]
  exact Nat.le_trans (List.length_filter_le _ _) h.len
 ·obtain ⟨x,hx,_,_,rfl⟩:=inside_mem.1 hy
  exact h.dat x hx
theorem digS_nz (l:List UInt8):digS l ≠ (0,0):=by
 unfold digS
 split
 ·decide
 ·rename_i h
  intro e
  exact h ⟨congrArg Prod.fst e,congrArg Prod.snd e⟩
theorem okD_00:OkD (0,0):=⟨⟨by decide,by decide⟩,by decide,by decide⟩
theorem blob_enc {D:Pa} (h:D.length<=60000):(encodeS (blobO D)).2=0/\OkO (blobO D):=by
 refine ⟨?_,okD_00,fun d hd=>by simp [blobO] at hd,fun e he=>by simp [blobO] at he⟩
 unfold encodeS
 have hc:checkS (blobO D)=0:=by unfold checkS blobO hasC; simp
 have hb:(bodyO (blobO D)).length<=65536:=by
  unfold bodyO blobO
  simp only [List.length_append]
  rw [if_neg (by decide),if_neg (by decide)]
  unfold putX
  rw [List.length_append]
  have h1:=enc_length (1:Int).toNat
  have h2:=enc_length D.length
  omega
 rw [if_neg (by simpa using hc),if_neg (by omega)]
theorem entGo_ok:∀ (es:List Ent) (p:Option Pa),(∀ e ∈ es,nameB e.name=true/\e.d ≠ (0,0))->(es.map (·.name)).Pairwise ltS->(∀ q,p=some q->∀ e ∈ es,ltS q e.name)->entGo p es=0
 | [],_,_,_,_=>rfl
 | e :: es,p,h1,h2,h3=>by
  rw [entGo]
  obtain ⟨g1,g2⟩:=h1 e (by simp)
  have hp:prevB p e.name=false:=by
   cases p with
   | none=>rfl
   | some q=>
    have h:=h3 q rfl e (by simp)
    simp only [prevB,leB,Bool.or_eq_false_iff]
    constructor
    ·cases hb:Op.bytesLess e.name q with
     | false=>rfl
     | true=>exact absurd (ltS_trans h hb) (ltS_irrefl _)
    ·simp only [beq_eq_false_iff_ne,ne_eq]
     intro e2
     rw [e2] at h
     exact ltS_irrefl _ h
  rw [List.map_cons] at h2
  obtain ⟨k1,k2⟩:=List.pairwise_cons.1 h2
  rw [if_neg (by simp [g1]),if_neg (by simp [hp]),if_neg g2]
  refine entGo_ok es _ (fun x hx=>h1 x (by simp [hx])) k2 (fun q hq x hx=>?_)
  cases hq
  exact k1 _ (List.mem_map.2 ⟨x,hx,rfl⟩)
theorem ents_len:∀ es:List Ent,(∀ e ∈ es,e.name.length<=24)->(es.flatMap entX).length<=es.length * 60
 | [],_=>by simp
 | e :: es,h=>by
  rw [List.flatMap_cons,List.length_append,List.length_cons]
  have h1:=ents_len es (fun x hx=>h x (by simp [hx]))
  have h2:=h e (by simp)
  have h3:(entX e).length<=60:=by
   unfold entX putX
   simp only [List.length_append,beD_length]
   have g1:(Cw.enc e.name.length).length<=10:=enc_length _
   have g2:(Cw.enc (dirN e.dir)).length<=10:=enc_length _
   omega
  omega
theorem tree_enc {es:List Ent} (h1:es.length<=200) (h2:∀ e ∈ es,nameB e.name=true/\e.d ≠ (0,0)/\OkD e.d) (h3:(es.map (·.name)).Pairwise ltS):(encodeS (treeO es)).2=0/\OkO (treeO es):=by
 refine ⟨?_,okD_00,fun d hd=>by simp [treeO] at hd,fun e he=>(h2 e he).2.2⟩
 unfold encodeS
 have hc:checkS (treeO es)=0:=by
  unfold checkS treeO
  simp only
  rw [if_neg (by decide),if_pos trivial,if_neg (by unfold hasC; simp)]
  unfold entsE
  rw [if_neg (by omega)]
  exact entGo_ok es none (fun e he=>⟨(h2 e he).1,(h2 e he).2.1⟩) h3 (fun q hq=>by cases hq)
 have hb:(bodyO (treeO es)).length<=65536:=by
  unfold bodyO treeO
  simp only [List.length_append]
  rw [if_pos trivial,List.length_append]
  have g1:=enc_length (2:Int).toNat
  have g2:=enc_length es.length
  have g3:=ents_len es (fun e he=>(nameB_length (h2 e he).1).2)
  omega
 rw [if_neg (by simpa using hc),if_neg (by omega)]
theorem withF_len:∀ (l:List Fl) (f:Fl),(withF l f).length<=l.length + 1
 | [],f=>by simp [withF]
 | x :: l,f=>by
  rw [withF]
  have:=withF_len l f
  split
  ·simp; omega
  ·split <;> simp
theorem names_len (l:List Fl):(namesS l).length<=l.length:=by
 have key:∀ (l acc:List Fl),(l.foldl (fun acc x=>withF acc ⟨firstS x,[]⟩) acc).length<=acc.length + l.length:=by
  intro l
  induction l with
  | nil=>intro acc; simp
  | cons x l ih=>
   intro acc
   rw [List.foldl_cons,List.length_cons]
   have:=ih (withF acc ⟨firstS x,[]⟩)
   have:=withF_len acc ⟨firstS x,[]⟩
   omega
 unfold namesS nameL
 rw [List.length_map]
 have:=key l []
 simpa using this
theorem OkF.pos {n:Nat} {l:List Fl} (h:OkF n l) {x:Fl} (hx:x ∈ l):0 < n:=by
 have:=h.path x hx
 cases n with
 | zero=>rw [pathF] at this; cases this
 | succ n=>omega
theorem deep_of {l:List Fl} {nm:Pa} (hn:nm ∈ namesS l) (hf:findF l nm=none):insideS l nm ≠ []:=by
 obtain ⟨x,hx,e⟩:=names_mem.1 hn
 cases hd:deepS x with
 | true=>
  intro h
  have:=inside_mem.2 ⟨x,hx,hd,e,rfl⟩
  rw [h] at this
  cases this
 | false=>
  have:=findF_none hf x hx
  rw [(flat_path hd).1] at this
  exact absurd e this
theorem pureF_dig {n:Nat} (h:0 < n) (l:List Fl):∃ o,(pureF n l).2=digO o:=by
 cases n with
 | zero=>omega
 | succ n=>rw [pureF]; exact ⟨_,rfl⟩
theorem ent_facts {n:Nat} {l:List Fl} (h:OkF (n + 1) l) {nm:Pa} (hn:nm ∈ namesS l):(entE (pureF n) l nm).name=nm/\nameB nm=true/\(entE (pureF n) l nm).d ≠ (0,0)/\OkD (entE (pureF n) l nm).d:=by
 obtain ⟨x,hx,e⟩:=names_mem.1 hn
 have hnb:=h.name hx
 rw [e] at hnb
 unfold entE
 cases hf:findF l nm with
 | some D=>exact ⟨rfl,hnb,digS_nz _,digS_ok _⟩
 | none=>
  obtain ⟨y,hy⟩:=List.exists_mem_of_ne_nil _ (deep_of hn hf)
  obtain ⟨o,ho⟩:=pureF_dig ((h.inside nm).pos hy) (insideS l nm)
  simp only
  rw [ho]
  exact ⟨trivial,hnb,digS_nz _,digS_ok _⟩
theorem dir_enc {n:Nat} {l:List Fl} (h:OkF (n + 1) l) (hs:SzF l):(encodeS (treeO ((namesS l).map (entE (pureF n) l)))).2=0/\OkO (treeO ((namesS l).map (entE (pureF n) l))):=by
 refine tree_enc (by rw [List.length_map]; exact Nat.le_trans (names_len l) hs.len) (fun e he=>?_) ?_
 ·obtain ⟨nm,hn,rfl⟩:=List.mem_map.1 he
  obtain ⟨h1,h2,h3,h4⟩:=ent_facts h hn
  rw [h1]
  exact ⟨h2,h3,h4⟩
 ·rw [List.map_map]
  have:(namesS l).map ((fun x=>x.name) ∘ entE (pureF n) l)=(namesS l).map id:=List.map_congr_left (fun nm hn=>(ent_facts h hn).1)
  rw [this,List.map_id]
  exact names_asc l
theorem flat_congr {α β:Type} {f g:α->List β}:∀ {l:List α},(∀ x ∈ l,f x=g x)->l.flatMap f=l.flatMap g
 | [],_=>rfl
 | x :: l,h=>by rw [List.flatMap_cons,List.flatMap_cons,h x (by simp),flat_congr (fun y hy=>h y (by simp [hy]))]
theorem perm_parts {α:Type} (key:α->Pa):∀ (ns:List Pa) (l:List α),ns.Nodup->(∀ x ∈ l,key x ∈ ns)->l.Perm (ns.flatMap fun nm=>l.filter fun x=>decide (key x=nm))
 | [],l,_,h=>by
  cases l with
  | nil=>exact List.Perm.refl _
  | cons x l=>exact absurd (h x (by simp)) (by simp)
 | nm :: ns,l,hn,h=>by
  rw [List.flatMap_cons]
  obtain ⟨g1,g2⟩:=List.nodup_cons.1 hn
  have ih:=perm_parts key ns (l.filter fun x=>!decide (key x=nm)) g2 (fun x hx=>by
   simp only [List.mem_filter,Bool.not_eq_true',decide_eq_false_iff_not] at hx
   rcases List.mem_cons.1 (h x hx.1) with e | e
   ·exact absurd e hx.2
   ·exact e)
  have he:(ns.flatMap fun m=>(l.filter fun x=>!decide (key x=nm)).filter fun x=>decide (key x=m))=ns.flatMap fun m=>l.filter fun x=>decide (key x=m):=by
   refine flat_congr (fun m hm=>?_)
   rw [List.filter_filter]
   refine List.filter_congr (fun x _=>?_)
   by_cases e:key x=m
   ·have:¬ key x=nm:=fun e2=>g1 (by rw [<-e2,e]; exact hm)
    simp [e]
    intro e3
    exact this (e.trans e3)
   ·simp [e]
  rw [he] at ih
  exact (List.filter_append_perm (fun x=>decide (key x=nm)) l).symm.trans (List.Perm.append_left _ ih)
theorem names_nodup (l:List Fl):(namesS l).Nodup:=List.Pairwise.imp (fun {a b} (h:ltS a b) (e:a=b)=>ltS_irrefl b (by rw [e] at h; exact h)) (names_asc l)
def preF (pre:Pa) (x:Fl):Fl:=⟨pre ++ x.path,x.data⟩
theorem OkF.flat {n:Nat} {l:List Fl} (h:OkF n l) {nm D:Pa} (hf:findF l nm=some D) (hs:(47:UInt8) ∉ nm):(l.filter fun x=>decide (firstS x=nm))=[⟨nm,D⟩]:=by
 have hm:=findF_some hf
 have hc:cutS nm=(nm,[],false):=by
  rcases cutS_law nm with ⟨_,h2,_⟩ | ⟨h1,h2,h3,_⟩
  ·exact absurd (by rw [h2]; simp) hs
  ·exact Prod.ext h2.symm (Prod.ext h3 h1)
 have hfst:firstS (⟨nm,D⟩:Fl)=nm:=by unfold firstS; rw [hc]
 have hall:∀ x ∈ l,firstS x=nm->x=⟨nm,D⟩:=fun x hx e=>by
  cases hd:deepS x with
  | true=>
   have hp:=(deep_path hd).1
   rw [e] at hp
   exact absurd hp (h.free _ hm _ hx _)
  | false=>
   have hp:=(flat_path hd).1
   rw [e] at hp
   exact ascF_same h.asc hx hm hp
 have hasc:AscF (l.filter fun x=>decide (firstS x=nm)):=List.Pairwise.filter _ h.asc
 refine ascF_ext hasc (List.pairwise_singleton _ _) (fun x=>?_)
 simp only [List.mem_filter,decide_eq_true_eq,List.mem_singleton]
 constructor
 ·rintro ⟨hx,e⟩; exact hall x hx e
 ·rintro rfl; exact ⟨hm,hfst⟩
theorem OkF.deep {l:List Fl} {nm:Pa} (hf:findF l nm=none):(l.filter fun x=>decide (firstS x=nm))=l.filter fun x=>deepS x && decide (firstS x=nm):=by
 refine List.filter_congr (fun x hx=>?_)
 cases hd:deepS x with
 | true=>simp
 | false=>
  have h:=findF_none hf x hx
  rw [(flat_path hd).1] at h
  simp [h]
theorem first_no {x:Fl}:(47:UInt8) ∉ firstS x:=by
 rcases cutS_law x.path with ⟨_,_,h3⟩ | ⟨_,h2,_,h4⟩
 ·exact h3
 ·unfold firstS; rw [<-h2]; exact h4
theorem visit_law:∀ (n:Nat) {l:List Fl} {pre:Pa} {Q:List Itm},0 < n->OkF n l->SzF l->Asc Q->(∀ y ∈ (pureF n l).1,y ∈ Q)->(∀ x ∈ l,(pre ++ x.path).length<=100)->(l=[]->pre=[])->∃ V,Vis Q n (pureF n l).2 pre V/\V.Perm (l.map (preF pre))
 | 0,l,pre,Q,hn,_,_,_,_,_,_=>by omega
 | n + 1,l,pre,Q,_,ho,hs,ha,hQ,hl,he=>by
  rw [pureF] at hQ ⊢
  obtain ⟨e1,e2⟩:=dir_enc ho hs
  have hget:=get_item' ha (hQ _ (by simp)) e1 e2
  have key:∀ ns:List Pa,(∀ nm ∈ ns,nm ∈ namesS l)->∃ V,VisL (Vis Q n) Q (ns.map (entE (pureF n) l)) pre V/\V.Perm ((ns.flatMap fun nm=>l.filter fun x=>decide (firstS x=nm)).map (preF pre)):=by
   intro ns
   induction ns with
   | nil=>intro _; exact ⟨[],rfl,List.Perm.refl _⟩
   | cons nm ns ih=>
    intro hns
    obtain ⟨V2,hv2,hp2⟩:=ih (fun m hm=>hns m (by simp [hm]))
    have hnm:=hns nm (by simp)
    obtain ⟨x0,hx0,hx0n⟩:=names_mem.1 hnm
    have hno:(47:UInt8) ∉ nm:=by rw [<-hx0n]; exact first_no
    rw [List.map_cons,List.flatMap_cons,List.map_append]
    have hItm:∀ y ∈ itmE (pureF n) l nm,y ∈ Q:=fun y hy=>hQ y (List.mem_append_left _ (List.mem_flatMap.2 ⟨nm,hnm,hy⟩))
    have hlen:(pre ++ nm).length<=100:=by
     have h1:=hl x0 hx0
     have h2:nm.length<=x0.path.length:=by
      rw [<-hx0n]
      rcases cutS_law x0.path with ⟨_,h3,_⟩ | ⟨_,h3,_⟩
      ·have:=congrArg List.length h3; rw [List.length_append] at this; unfold firstS; omega
      ·unfold firstS; rw [<-h3]; exact Nat.le_refl _
     rw [List.length_append] at h1 ⊢
     omega
    cases hf:findF l nm with
    | some D=>
     have hE:entE (pureF n) l nm=⟨nm,false,digO (blobO D)⟩:=by unfold entE; rw [hf]
     have hI:itO (blobO D) ∈ Q:=hItm _ (by unfold itmE; rw [hf]; simp)
     obtain ⟨b1,b2⟩:=blob_enc (D:=D) (hs.dat _ (findF_some hf))
     rw [hE,ho.flat hf hno]
     refine ⟨[⟨pre ++ nm,D⟩] ++ V2,⟨_,_,rfl,hlen,?_,hv2⟩,List.Perm.append_left _ hp2⟩
     rw [if_neg (by simp)]
     exact ⟨D,get_item' ha hI b1 b2,rfl⟩
    | none=>
     have hE:entE (pureF n) l nm=⟨nm,true,(pureF n (insideS l nm)).2⟩:=by unfold entE; rw [hf]
     obtain ⟨y0,hy0⟩:=List.exists_mem_of_ne_nil _ (deep_of hnm hf)
     have hin:=ho.inside nm
     obtain ⟨V1,hv1,hp1⟩:=visit_law n (pre:=pre ++ nm ++ [47]) (hin.pos hy0) hin (hs.inside nm) ha (fun y hy=>hItm y (by unfold itmE; rw [hf]; exact hy)) (fun y hy=>by
      obtain ⟨x,hx,d1,d2,rfl⟩:=inside_mem.1 hy
      have h1:=hl x hx
      rw [(deep_path d1).1,d2] at h1
      simpa using h1) (fun h=>absurd h (deep_of hnm hf))
     rw [hE,OkF.deep hf]
     refine ⟨V1 ++ V2,⟨_,_,rfl,hlen,?_,hv2⟩,List.Perm.append ?_ hp2⟩
     ·rw [if_pos rfl]; exact hv1
     ·have hmm:(insideS l nm).map (preF (pre ++ nm ++ [47]))=(l.filter fun x=>deepS x && decide (firstS x=nm)).map (preF pre):=by
       unfold insideS
       rw [List.map_map]
       refine List.map_congr_left (fun x hx=>?_)
       simp only [List.mem_filter,Bool.and_eq_true,decide_eq_true_eq] at hx
       obtain ⟨_,d1,d2⟩:=hx
       have hp:=(deep_path d1).1
       unfold preF
       simp only [Function.comp]
       rw [hp,d2]
       unfold restS'
       simp
      rw [<-hmm]
      exact hp1
  obtain ⟨V,hv,hp⟩:=key (namesS l) (fun nm h=>h)
  refine ⟨V,⟨_,hget,fun h=>he ?_,hv⟩,hp.trans ?_⟩
  ·have h2:namesS l=[]:=List.map_eq_nil_iff.1 h
   cases l with
   | nil=>rfl
   | cons x l=>
    have hm:firstS x ∈ namesS (x :: l):=names_mem.2 ⟨x,by simp,rfl⟩
    rw [h2] at hm
    cases hm
  ·exact ((perm_parts firstS (namesS l) l (names_nodup l) (fun x hx=>names_mem.2 ⟨x,hx,rfl⟩)).map (preF pre)).symm
theorem put_err {p:List Itm} (ha:Asc p) {o:Ob} (he:(encodeS o).2=0):(putS p o).2.2=0\/(putS p o).2.2=16:=by
 rcases put_law ha o with ⟨_,_,h⟩ | h | ⟨h,_⟩
 ·unfold itemO at h
  rw [if_pos he] at h
  cases h
 ·exact .inr h
 ·exact .inl h
theorem put_sub {p Q:List Itm} (ha:Asc p) (hQ:Asc Q) (hs:∀ y ∈ p,y ∈ Q) {o:Ob} (he:(encodeS o).2=0) (hi:itO o ∈ Q):(putS p o).2.2=0:=by
 have hk:(insS p (itO o)).2=0:=by
  cases hh:hitB p (itO o).d (posI p (itO o).d) with
  | false=>rw [insS_miss (asc_at ha (itO o).d) hh]
  | true=>
   obtain ⟨hk,h1,h2⟩:=insS_hit (asc_at ha (itO o).d) hh
   have h3:=asc_same hQ (hs _ (List.getElem_mem hk)) hi h1
   rw [h2,if_pos (by rw [h3])]
 unfold putS
 rw [if_neg (by simpa using he)]
 have hk':(insS p ⟨digS (encodeS o).1,(encodeS o).1⟩).2=0:=hk
 rw [if_neg (by simpa using hk')]
theorem store_ends:∀ (n:Nat) {l:List Fl} {p:List Itm},0 < n->OkF n l->SzF l->Asc p->((storeF n p l).2.2=0\/(storeF n p l).2.2=16)/\∀ Q,Asc Q->(∀ y ∈ p,y ∈ Q)->(∀ y ∈ (pureF n l).1,y ∈ Q)->(storeF n p l).2.2=0
 | 0,l,p,hn,_,_,_=>by omega
 | n + 1,l,p,_,ho,hs,ha=>by
  rw [storeF,pureF]
  obtain ⟨e1,_⟩:=dir_enc ho hs
  have key:∀ (ns:List Pa) (es:List Ent) {p:List Itm},(∀ nm ∈ ns,nm ∈ namesS l)->es ++ ns.map (entE (pureF n) l)=(namesS l).map (entE (pureF n) l)->Asc p->((storeGo (storeF n) l ns p es).2.2=0\/(storeGo (storeF n) l ns p es).2.2=16)/\∀ Q,Asc Q->(∀ y ∈ p,y ∈ Q)->(∀ y ∈ ns.flatMap (itmE (pureF n) l) ++ [itO (treeO ((namesS l).map (entE (pureF n) l)))],y ∈ Q)->(storeGo (storeF n) l ns p es).2.2=0:=by
   intro ns
   induction ns with
   | nil=>
    intro es p _ hes ha
    rw [List.map_nil,List.append_nil] at hes
    rw [storeGo,hes]
    exact ⟨put_err ha e1,fun Q hQ hp hi=>put_sub ha hQ hp e1 (hi _ (by simp))⟩
   | cons nm ns ih=>
    intro es p hns hes ha
    have hnm:=hns nm (by simp)
    rw [storeGo,List.flatMap_cons]
    rw [List.map_cons] at hes
    have hes2:es ++ [entE (pureF n) l nm] ++ ns.map (entE (pureF n) l)=(namesS l).map (entE (pureF n) l):=by rw [List.append_assoc]; exact hes
    have ih:=fun {p:List Itm} (ha:Asc p)=>ih (es ++ [entE (pureF n) l nm]) (p:=p) (fun m hm=>hns m (by simp [hm])) hes2 ha
    cases hf:findF l nm with
    | some D=>
     have hE:entE (pureF n) l nm=⟨nm,false,digO (blobO D)⟩:=by unfold entE; rw [hf]
     have hI:itmE (pureF n) l nm=[itO (blobO D)]:=by unfold itmE; rw [hf]
     obtain ⟨b1,_⟩:=blob_enc (D:=D) (hs.dat _ (findF_some hf))
     rw [hI]
     simp only
     by_cases h1:(putS p (blobO D)).2.2=0
     ·obtain ⟨g1,g2,g3,_⟩:=put_ok ha (show putS p (blobO D)=((putS p (blobO D)).1,(putS p (blobO D)).2.1,0) from Prod.ext rfl (Prod.ext rfl h1))
      rw [if_neg (by simpa using h1),g2,<-hE]
      obtain ⟨k1,k2⟩:=ih g1
      refine ⟨k1,fun Q hQ hp hi=>k2 Q hQ (fun y hy=>?_) (fun y hy=>hi y (by rw [List.append_assoc]; exact List.mem_append_right _ hy))⟩
      rcases (g3 y).1 hy with h | rfl
      ·exact hp y h
      ·exact hi _ (by simp)
     ·rw [if_pos h1]
      refine ⟨?_,fun Q hQ hp hi=>absurd (put_sub ha hQ hp b1 (hi _ (by simp))) h1⟩
      rcases put_err ha b1 with h | h
      ·exact absurd h h1
      ·exact .inr h
    | none=>
     have hE:entE (pureF n) l nm=⟨nm,true,(pureF n (insideS l nm)).2⟩:=by unfold entE; rw [hf]
     have hI:itmE (pureF n) l nm=(pureF n (insideS l nm)).1:=by unfold itmE; rw [hf]
     obtain ⟨y0,hy0⟩:=List.exists_mem_of_ne_nil _ (deep_of hnm hf)
     have hin:=ho.inside nm
     obtain ⟨s1,s2⟩:=store_ends n (hin.pos hy0) hin (hs.inside nm) ha
     rw [hI]
     simp only
     by_cases h1:(storeF n p (insideS l nm)).2.2=0
     ·obtain ⟨g1,g2,g3⟩:=store_pure n ha (show storeF n p (insideS l nm)=((storeF n p (insideS l nm)).1,(storeF n p (insideS l nm)).2.1,0) from Prod.ext rfl (Prod.ext rfl h1))
      rw [if_neg (by simpa using h1),g2,<-hE]
      obtain ⟨k1,k2⟩:=ih g1
      refine ⟨k1,fun Q hQ hp hi=>k2 Q hQ (fun y hy=>?_) (fun y hy=>hi y (by rw [List.append_assoc]; exact List.mem_append_right _ hy))⟩
      rcases (g3 y).1 hy with h | h
      ·exact hp y h
      ·exact hi _ (by rw [List.append_assoc]; exact List.mem_append_left _ h)
     ·rw [if_pos h1]
      refine ⟨?_,fun Q hQ hp hi=>absurd (s2 Q hQ hp (fun y hy=>hi _ (by rw [List.append_assoc]; exact List.mem_append_left _ hy))) h1⟩
      rcases s1 with h | h
      ·exact absurd h h1
      ·exact .inr h
  exact key (namesS l) [] (fun nm h=>h) rfl ha
end Go.Proofs.YtdedfkljaeloiaaGreatDoor
