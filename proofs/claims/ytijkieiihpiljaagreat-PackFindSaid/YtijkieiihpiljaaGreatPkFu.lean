/- Packs on paper: what Entries, Find and Unpack tell of a pack. -/
import Derived.Test.YtijkieiihpiljaaGreatP8
import Derived.Test.YtijkieiihpiljaaGreatPkTr
import Derived.Test.YtijkieiihpiljaaGreatK5
set_option maxRecDepth 100000
set_option maxHeartbeats 16000000
open Go.Lib (hid)
namespace Go.Proofs.YtijkieiihpiljaaGreat
open Go.RowKit Go.Shelf
set_option linter.unusedVariables false
structure PkGood (xs:List Itm) (l base:List Dg):Prop where
 asc:Asc xs
 chk:∀ x ∈ xs,chkI x=0
 dat:∀ x ∈ xs,x.data.length<=1000
 nd:l.Nodup
 inl:∀ d ∈ l,∃ x ∈ xs,x.d=d
 inb:∀ d ∈ base,∃ x ∈ xs,x.d=d
 len:l.length<=1000
theorem has_item {xs:List Itm} {d:Dg} (h:hasS xs d=true):∃ x ∈ xs,x.d=d:=by
 unfold hasS hitB at h
 cases hy:xs[posI xs d]? with
 | none=>rw [hy] at h; cases h
 | some y=>rw [hy] at h; exact ⟨y,List.mem_of_getElem? hy,of_decide_eq_true h⟩
theorem pkE_zero {xs:List Itm}:∀ (l seen:List Dg),pkE xs l seen=0->(∀ d ∈ l,hasS xs d=true/\d ∉ seen)/\l.Nodup
 | [],seen,h=>⟨fun d hd=>(by cases hd),List.nodup_nil⟩
 | d :: l,seen,h=>by
  rw [pkE] at h
  by_cases h1:hasS xs d=false
  ·rw [if_pos h1] at h; cases h
  rw [if_neg h1] at h
  by_cases h2:d ∈ seen
  ·rw [if_pos h2] at h; cases h
  rw [if_neg h2] at h
  obtain ⟨g1,g2⟩:=pkE_zero l _ h
  refine ⟨fun x hx=>?_,List.nodup_cons.2 ⟨fun hd=>(g1 d hd).2 (by simp),g2⟩⟩
  rcases List.mem_cons.1 hx with rfl | hx
  ·exact ⟨by simpa using h1,h2⟩
  ·exact ⟨(g1 x hx).1,fun hs=>(g1 x hx).2 (by simp [hs])⟩
theorem pack_good {xs:List Itm} {l base:List Dg} (ha:Asc xs) (hc:∀ x ∈ xs,chkI x=0) (hd:∀ x ∈ xs,x.data.length<=1000) (h:packE xs l base=0):PkGood xs l base:=by
 unfold packE at h
 by_cases h1:1000 < l.length
 ·rw [if_pos h1] at h; cases h
 rw [if_neg h1] at h
 by_cases h2:pkE xs l []=0
 ·rw [if_neg (by simpa using h2)] at h
  obtain ⟨g1,g2⟩:=pkE_zero l [] h2
  refine ⟨ha,hc,hd,g2,fun d hd=>has_item (g1 d hd).1,fun d hd=>?_,by omega⟩
  unfold bsE at h
  by_cases h3:base.all (hasS xs)=true
  ·exact has_item (List.all_eq_true.1 h3 d hd)
  ·rw [if_neg h3] at h; cases h
 ·rw [if_pos h2] at h; exact absurd h h2
theorem chkI_parts {x:Itm} (h:chkI x=0):(decodeS x.data).2=0/\digS x.data=x.d:=by
 unfold chkI at h
 by_cases h1:(decodeS x.data).2=0
 ·rw [if_neg (by simpa using h1)] at h
  by_cases h2:digS x.data=x.d
  ·exact ⟨h1,h2⟩
  ·rw [if_pos h2] at h; cases h
 ·rw [if_pos h1] at h; cases h
theorem datI_mem {xs:List Itm} (ha:Asc xs) {x:Itm} (hx:x ∈ xs):datI xs x.d=(x.data,0):=by
 unfold datI
 cases hf:xs.find? (fun y=>decide (y.d=x.d)) with
 | none=>
  have:=List.find?_eq_none.1 hf x hx
  simp at this
 | some y=>
  have h1:=List.mem_of_find?_eq_some hf
  have h2:=List.find?_some hf
  simp only [decide_eq_true_eq] at h2
  rw [asc_same ha h1 hx h2]
theorem good_ok {x:Itm} (h:chkI x=0):OkD x.d:=by rw [<-(chkI_parts h).2]; exact digS_ok _
theorem good_len {xs:List Itm} (h:∀ x ∈ xs,x.data.length<=1000) (d:Dg):(datD xs d).length<=1000:=by
 unfold datD datI
 cases hx:xs.find? (fun x=>decide (x.d=d)) with
 | none=>simp
 | some x=>exact h x (List.mem_of_find?_eq_some hx)
structure EntIs (xs:List Itm) (b:List UInt8) (d:Dg) (o:Option Dg) (e:Pe):Prop where
 dg:e.d=d
 whole:o=none->e.kind=0/\(b.drop e.off).take e.len=datD xs d
 delta:∀ c,o=some c->e.kind=1/\e.base=c/\(b.drop e.off).take e.len=(encL (diffS (datD xs c) (datD xs d))).1
theorem drop_cut {α:Type} {b P Q:List α} {k:Nat} (h:b=P ++ Q) (hk:k=P.length):b.drop k=Q:=by rw [h,hk,List.drop_left]
theorem getI_small (n:Nat) (h:n<=1) (R:List UInt8):Cw.getI (Cw.enc n ++ R)=((n:Int),1,0):=by
 rw [Cw.getI_enc n (by omega) R]
 have e0:(Cw.enc 0).length=1:=by decide +kernel
 have e1:(Cw.enc 1).length=1:=by decide +kernel
 have:(Cw.enc n).length=1:=by
  rcases (by omega:n=0\/n=1) with rfl | rfl
  ·exact e0
  ·exact e1
 rw [this]; rfl
theorem entry_at {xs:List Itm} {b P R:List UInt8} {d:Dg} {o:Option Dg} (hb:b=P ++ (entB xs d o ++ R)) (hd:OkD d) (ho:∀ c,o=some c->OkD c) (hn:(datD xs d).length<=65536) (hm:∀ c,o=some c->(encL (diffS (datD xs c) (datD xs d))).1.length<=65536) :
  ∃ e,entryS b P.length=some e/\e.off + e.len=P.length + (entB xs d o).length/\EntIs xs b d o e:=by
 have e0:(Cw.enc 0).length=1:=by decide +kernel
 have e1:(Cw.enc 1).length=1:=by decide +kernel
 cases o with
 | none=>
  have hb1:b=P ++ (beD d ++ (Cw.enc 0 ++ (putX (datD xs d) ++ R))):=by rw [hb]; unfold entB; simp only [List.append_assoc]
  have hb2:b=(P ++ beD d) ++ (Cw.enc 0 ++ (putX (datD xs d) ++ R)):=by rw [hb1]; simp only [List.append_assoc]
  have hb3:b=(P ++ beD d ++ Cw.enc 0) ++ (putX (datD xs d) ++ R):=by rw [hb1]; simp only [List.append_assoc]
  have hb4:b=(P ++ beD d ++ Cw.enc 0 ++ Cw.enc (datD xs d).length) ++ (datD xs d ++ R):=by rw [hb1]; unfold putX; simp only [List.append_assoc]
  have hlen:b.length=P.length + 16 + 1 + (putX (datD xs d)).length + R.length:=by rw [hb3]; simp only [List.length_append,beD_length,e0]; omega
  have hx:(putX (datD xs d)).length=(Cw.enc (datD xs d).length).length + (datD xs d).length:=by unfold putX; rw [List.length_append]
  have d1:b.drop P.length=beD d ++ (Cw.enc 0 ++ (putX (datD xs d) ++ R)):=drop_cut hb1 rfl
  have d2:b.drop (P.length + 16)=Cw.enc 0 ++ (putX (datD xs d) ++ R):=drop_cut hb2 (by rw [List.length_append,beD_length])
  have d3:b.drop (P.length + 16 + 1)=putX (datD xs d) ++ R:=drop_cut hb3 (by simp only [List.length_append,beD_length,e0])
  have g1:Cw.getI (b.drop (P.length + 16))=(0,1,0):=by rw [d2]; exact getI_small 0 (by omega) _
  have g2:Cw.getT (b.drop (P.length + 16 + 1))=(datD xs d,((putX (datD xs d)).length:Int),0):=by rw [d3]; exact getT_put hn R
  have hE:entryS b P.length=some ⟨d,0,(0,0),P.length + 16 + 1 + (putX (datD xs d)).length - (datD xs d).length,(datD xs d).length⟩:=by
   unfold entryS
   rw [if_neg (by omega),g1]
   simp only
   rw [if_neg (by simp),if_neg (by simp)]
   have h0:P.length + 16 + (1:Int).toNat + (if (0:Int)=1 then 16 else 0)=P.length + 16 + 1:=by simp
   rw [h0,g2]
   simp only
   rw [if_neg (by simp),d1,fixD_be hd,if_neg (by simp),Int.toNat_natCast]
  refine ⟨_,hE,?_,rfl,fun _=>⟨rfl,?_⟩,fun c hc=>(by cases hc)⟩
  ·simp only
   unfold entB
   simp only [List.length_append,beD_length,e0]
   omega
  ·simp only
   rw [drop_cut hb4 (by simp only [List.length_append,beD_length,e0]; omega),List.take_left]
 | some c=>
  obtain ⟨T,hT⟩:∃ T,T=(encL (diffS (datD xs c) (datD xs d))).1:=⟨_,rfl⟩
  have hTn:T.length<=65536:=by rw [hT]; exact hm c rfl
  have hc:=ho c rfl
  have hbT:b=P ++ (beD d ++ (Cw.enc 1 ++ (beD c ++ (putX T ++ R)))):=by rw [hb,hT]; unfold entB txS; simp only [List.append_assoc]
  have hb2:b=(P ++ beD d) ++ (Cw.enc 1 ++ (beD c ++ (putX T ++ R))):=by rw [hbT]; simp only [List.append_assoc]
  have hb3:b=(P ++ beD d ++ Cw.enc 1) ++ (beD c ++ (putX T ++ R)):=by rw [hbT]; simp only [List.append_assoc]
  have hb5:b=(P ++ beD d ++ Cw.enc 1 ++ beD c) ++ (putX T ++ R):=by rw [hbT]; simp only [List.append_assoc]
  have hb4:b=(P ++ beD d ++ Cw.enc 1 ++ beD c ++ Cw.enc T.length) ++ (T ++ R):=by rw [hbT]; unfold putX; simp only [List.append_assoc]
  have hlen:b.length=P.length + 16 + 1 + 16 + (putX T).length + R.length:=by rw [hb5]; simp only [List.length_append,beD_length,e1]; omega
  have hx:(putX T).length=(Cw.enc T.length).length + T.length:=by unfold putX; rw [List.length_append]
  have d1:b.drop P.length=beD d ++ (Cw.enc 1 ++ (beD c ++ (putX T ++ R))):=drop_cut hbT rfl
  have d2:b.drop (P.length + 16)=Cw.enc 1 ++ (beD c ++ (putX T ++ R)):=drop_cut hb2 (by rw [List.length_append,beD_length])
  have d3:b.drop (P.length + 16 + 1)=beD c ++ (putX T ++ R):=drop_cut hb3 (by simp only [List.length_append,beD_length,e1])
  have d5:b.drop (P.length + 16 + 1 + 16)=putX T ++ R:=drop_cut hb5 (by simp only [List.length_append,beD_length,e1])
  have g1:Cw.getI (b.drop (P.length + 16))=(1,1,0):=by rw [d2]; exact getI_small 1 (by omega) _
  have g2:Cw.getT (b.drop (P.length + 16 + 1 + 16))=(T,((putX T).length:Int),0):=by rw [d5]; exact getT_put hTn R
  have hE:entryS b P.length=some ⟨d,1,c,P.length + 16 + 1 + 16 + (putX T).length - T.length,T.length⟩:=by
   unfold entryS
   rw [if_neg (by omega),g1]
   simp only
   have h0:P.length + 16 + (1:Int).toNat=P.length + 16 + 1:=by simp
   rw [if_neg (by simp),h0,if_neg (by omega),if_pos trivial,if_pos trivial,g2]
   simp only
   rw [if_neg (by simp),d1,fixD_be hd,d3,fixD_be hc,Int.toNat_natCast]
  refine ⟨_,hE,?_,rfl,fun h=>(by cases h),fun c' hc'=>?_⟩
  ·simp only
   unfold entB txS
   simp only [List.length_append,beD_length,e1,<-hT]
   omega
  ·cases hc'
   refine ⟨rfl,rfl,?_⟩
   simp only
   rw [drop_cut hb4 (by simp only [List.length_append,beD_length,e1]; omega),List.take_left,hT]
theorem chosen_mem {xs:List Itm} {d:Dg} {cs:List Dg} {c:Dg} (h:chosen xs d cs=some c):c ∈ cs:=by
 have key:∀ (tx:Dg->Nat) (cs:List Dg) (m:Nat) (r:Option Dg),pickR tx cs m r=some c->c ∈ cs\/r=some c:=by
  intro tx cs
  induction cs with
  | nil=>intro m r h; exact .inr h
  | cons x cs ih=>
   intro m r h
   rw [pickR] at h
   split at h
   ·rcases ih _ _ h with h | h
    ·exact .inl (List.mem_cons_of_mem _ h)
    ·cases h; exact .inl List.mem_cons_self
   ·rcases ih _ _ h with h | h
    ·exact .inl (List.mem_cons_of_mem _ h)
    ·exact .inr h
 rcases key _ _ _ _ h with h | h
 ·exact h
 ·cases h
def chI (xs:List Itm) (l base:List Dg) (i:Nat):Option Dg:=chosen xs (l.getD i (0,0)) (base ++ l.take i)
theorem PkGood.okl {xs:List Itm} {l base:List Dg} (g:PkGood xs l base) {d:Dg} (h:d ∈ l\/d ∈ base):OkD d:=by
 obtain ⟨x,hx,rfl⟩:∃ x ∈ xs,x.d=d:=h.elim (g.inl d) (g.inb d)
 exact good_ok (g.chk x hx)
theorem PkGood.tx {xs:List Itm} {l base:List Dg} (g:PkGood xs l base) (c d:Dg):(encL (diffS (datD xs c) (datD xs d))).2=0/\(encL (diffS (datD xs c) (datD xs d))).1.length<=65536/\decD (encL (diffS (datD xs c) (datD xs d))).1=(diffS (datD xs c) (datD xs d),0)/\(diffS (datD xs c) (datD xs d)).length<=3000:=diff_enc (a:=datD xs c) (b:=datD xs d) (by have:=good_len g.dat c; omega) (by have:=good_len g.dat d; omega)
theorem flat_at (f:Nat->List UInt8) {i n:Nat} (h:i < n):(List.range n).flatMap f=(List.range i).flatMap f ++ (f i ++ ((List.range n).drop (i + 1)).flatMap f):=by
 have h1:List.range n=List.range i ++ (i :: (List.range n).drop (i + 1)):=by
  have h2:(List.range n).take i=List.range i:=by rw [List.take_range]; congr 1; omega
  have h3:(List.range n).drop i=i :: (List.range n).drop (i + 1):=by
   rw [List.drop_eq_getElem_cons (by simpa using h),List.getElem_range]
  rw [<-h2,<-h3,List.take_append_drop]
 conv=>lhs; rw [h1]
 rw [List.flatMap_append,List.flatMap_cons]
theorem pe_go {xs:List Itm} {l base:List Dg} (g:PkGood xs l base):∀ (n:Nat) (acc:List Pe) (k:Nat),acc.length + n=l.length->k=(Cw.enc l.length ++ (List.range acc.length).flatMap (entI xs l base)).length->(∀ i (h:i < acc.length),EntIs xs (packB xs l base) (l.getD i (0,0)) (chI xs l base i) acc[i])->
  ∃ E,peGo (packB xs l base) n k acc=(E,0)/\E.length=l.length/\∀ i (h:i < E.length),EntIs xs (packB xs l base) (l.getD i (0,0)) (chI xs l base i) E[i]
 | 0,acc,k,h1,h2,h3=>by
  refine ⟨acc,?_,by omega,h3⟩
  have h4:acc.length=l.length:=by omega
  rw [h4] at h2
  rw [peGo,if_pos (by rw [h2]; rfl)]
 | n + 1,acc,k,h1,h2,h3=>by
  have hi:acc.length < l.length:=by omega
  have hsp:=flat_at (entI xs l base) hi
  have hb:packB xs l base=(Cw.enc l.length ++ (List.range acc.length).flatMap (entI xs l base)) ++ (entB xs (l.getD acc.length (0,0)) (chI xs l base acc.length) ++ ((List.range l.length).drop (acc.length + 1)).flatMap (entI xs l base)):=by
   unfold packB
   rw [hsp,List.append_assoc]
   rfl
  have hgd:l.getD acc.length (0,0)=l[acc.length]:=by rw [List.getD_eq_getElem?_getD,List.getElem?_eq_getElem hi]; rfl
  have hdl:l.getD acc.length (0,0) ∈ l:=by rw [hgd]; exact List.getElem_mem hi
  have hcm:∀ c,chI xs l base acc.length=some c->c ∈ l\/c ∈ base:=fun c hc=>by
   rcases List.mem_append.1 (chosen_mem hc) with h | h
   ·exact .inr h
   ·exact .inl (List.mem_of_mem_take h)
  obtain ⟨e,he1,he2,he3⟩:=entry_at hb (g.okl (.inl hdl)) (fun c hc=>g.okl (hcm c hc)) (by have:=good_len g.dat (l.getD acc.length (0,0)); omega) (fun c _=>(g.tx c _).2.1)
  rw [<-h2] at he1 he2
  rw [peGo,he1]
  simp only
  have hnew:e.d ∉ acc.map (·.d):=fun hm=>by
   obtain ⟨y,hy,hyd⟩:=List.mem_map.1 hm
   obtain ⟨j,hj,rfl⟩:=List.getElem_of_mem hy
   have h5:=(h3 j hj).dg
   rw [hyd,he3.dg,hgd] at h5
   have hjl:j < l.length:=by omega
   rw [List.getD_eq_getElem?_getD,List.getElem?_eq_getElem hjl] at h5
   have:=(List.getElem_inj g.nd).1 h5
   omega
  rw [if_neg hnew]
  refine pe_go g n (acc ++ [e]) _ (by rw [List.length_append,List.length_singleton]; omega) ?_ (fun i hi2=>?_)
  ·have hsum:(List.range (acc ++ [e]).length).flatMap (entI xs l base)=(List.range acc.length).flatMap (entI xs l base) ++ entI xs l base acc.length:=by
    rw [List.length_append,List.length_singleton,List.range_succ,List.flatMap_append]
    simp
   rw [hsum,<-List.append_assoc,List.length_append,<-h2,he2]
   rfl
  ·rw [List.length_append,List.length_singleton] at hi2
   by_cases h6:i < acc.length
   ·rw [List.getElem_append_left h6]; exact h3 i h6
   ·obtain rfl:i=acc.length:=by omega
    rw [List.getElem_append_right (by omega)]
    simpa using he3
theorem pack_ents {xs:List Itm} {l base:List Dg} (g:PkGood xs l base):∃ E,entriesS (sealS (packB xs l base))=(E,0)/\E.length=l.length/\∀ i (h:i < E.length),EntIs xs (packB xs l base) (l.getD i (0,0)) (chI xs l base i) E[i]:=by
 obtain ⟨b,hb⟩:∃ b,b=packB xs l base:=⟨_,rfl⟩
 have hl:(sealS b).length=b.length + 16:=by unfold sealS; rw [List.length_append,beD_length]
 have ht:(sealS b).take b.length=b:=by unfold sealS; exact List.take_left
 have hd:(sealS b).drop b.length=beD (digS b):=by unfold sealS; exact List.drop_left
 have hf:fixD (beD (digS b))=digS b:=by
  have:=fixD_be (digS_ok b) []
  rwa [List.append_nil] at this
 have hg:Cw.getI b=((l.length:Int),((Cw.enc l.length).length:Int),0):=by rw [hb]; exact Cw.getI_enc _ (by have:=g.len; omega) _
 have hlen:=g.len
 obtain ⟨E,h1,h2,h3⟩:=pe_go g l.length [] (Cw.enc l.length).length (by simp) (by simp) (fun i h=>by simp at h)
 refine ⟨E,?_,h2,h3⟩
 rw [<-hb] at h1 ⊢
 unfold entriesS
 rw [hl,if_neg (by omega),Nat.add_sub_cancel,ht,hd,hf,if_neg (by simp)]
 unfold pbodyS
 rw [hg]
 simp only
 rw [if_neg (by simp; omega),Int.toNat_natCast,Int.toNat_natCast]
 exact h1
theorem keep_mem {xs:List Itm} {T:List Dg} {x:Itm}:x ∈ keepS xs T ↔ x ∈ xs/\x.d ∈ T:=by unfold keepS; rw [List.mem_filter]; simp
theorem datD_mem {xs:List Itm} (ha:Asc xs) {x:Itm} (hx:x ∈ xs):datD xs x.d=x.data:=by unfold datD; rw [datI_mem ha hx]
theorem right_dat {xs:List Itm} (ha:Asc xs) (hc:∀ x ∈ xs,chkI x=0) {d:Dg} (h:∃ x ∈ xs,x.d=d):pcompS.rightS (datD xs d) d=(datD xs d,0):=by
 obtain ⟨x,hx,rfl⟩:=h
 obtain ⟨h1,h2⟩:=chkI_parts (hc x hx)
 rw [datD_mem ha hx]
 unfold pcompS.rightS
 rw [if_neg (by simpa using h1),if_neg (by simpa using h2)]
theorem cut_left {b D:List UInt8} {i n:Nat} (h:i + n<=b.length):((b ++ D).drop i).take n=(b.drop i).take n:=by
 rw [List.drop_append_of_le_length (by omega),List.take_append_of_le_length (by rw [List.length_drop]; omega)]
theorem getD_at {l:List Dg} {i:Nat} (h:i < l.length):l.getD i (0,0)=l[i]:=by rw [List.getD_eq_getElem?_getD,List.getElem?_eq_getElem h]; rfl
theorem pack_dat {xs:List Itm} {l base:List Dg} (g:PkGood xs l base) {E:List Pe} (hE:entriesS (sealS (packB xs l base))=(E,0)) (hl:E.length=l.length) (hI:∀ i (h:i < E.length),EntIs xs (packB xs l base) (l.getD i (0,0)) (chI xs l base i) E[i]) :
  ∀ (n i:Nat),i < n->i < E.length->datS (sealS (packB xs l base)) (keepS xs base) E i=(datD xs (l.getD i (0,0)),0)
 | 0,i,h,_=>by omega
 | n + 1,i,h,hi=>by
  have hil:i < l.length:=by omega
  obtain ⟨hok,_,_⟩:=entriesS_ok hE
  have hsb:(sealS (packB xs l base)).take ((sealS (packB xs l base)).length - 16)=packB xs l base:=by
   have:(sealS (packB xs l base)).length - 16=(packB xs l base).length:=by unfold sealS; rw [List.length_append,beD_length]; omega
   rw [this]; unfold sealS; exact List.take_left
  rw [hsb] at hok
  obtain ⟨k,hk⟩:=hok.at_ _ (List.getElem_mem hi)
  have hhi:=(entryS_at hk).1.hi
  have htx:((sealS (packB xs l base)).drop E[i].off).take E[i].len=((packB xs l base).drop E[i].off).take E[i].len:=by unfold sealS; exact cut_left hhi
  rw [datS_eq hi]
  have he:=hI i hi
  obtain ⟨d,hd⟩:∃ d,d=l.getD i (0,0):=⟨_,rfl⟩
  have hdx:∃ x ∈ xs,x.d=d:=g.inl d (by rw [hd,getD_at hil]; exact List.getElem_mem hil)
  rw [<-hd] at he ⊢
  cases ho:chI xs l base i with
  | none=>
   obtain ⟨h1,h2⟩:=he.whole ho
   unfold pcompS
   rw [if_neg (by rw [h1]; decide),htx,h2,he.dg]
   exact right_dat g.asc g.chk hdx
  | some c=>
   obtain ⟨h1,h2,h3⟩:=he.delta c ho
   have hcm:=chosen_mem ho
   have hbs:c ∈ base->datI (keepS xs base) c=(datD xs c,0):=fun hb=>by
    obtain ⟨x,hx,rfl⟩:=g.inb c hb
    have hkp:Asc (keepS xs base):=asc_filter g.asc _
    rw [datI_mem hkp (keep_mem.2 ⟨hx,hb⟩),datD_mem g.asc hx]
   have hsrc:srcS (keepS xs base) E (datS (sealS (packB xs l base)) (keepS xs base) E) i E[i].base=(datD xs c,0):=by
    rw [h2]
    unfold srcS
    have hno:(∀ j (hj:j < E.length),j < i->E[j].d ≠ c)->c ∈ base:=fun hall=>by
     rcases List.mem_append.1 hcm with h | h
     ·exact h
     ·obtain ⟨j,hj,hjc⟩:=List.getElem_of_mem h
      rw [List.length_take] at hj
      rw [List.getElem_take] at hjc
      have hjl:j < E.length:=by omega
      refine absurd ?_ (hall j hjl (by omega))
      rw [(hI j hjl).dg,getD_at (by omega)]
      exact hjc
    cases hx:idxE E c with
    | none=>exact hbs (hno (fun j hj _=>idxE_none.1 hx _ (List.getElem_mem hj)))
    | some j=>
     obtain ⟨hj,hj1,hj2⟩:=idxE_some hx
     simp only
     by_cases hji:j < i
     ·rw [if_pos hji,pack_dat g hE hl hI n j (by omega) hj,<-(hI j hj).dg,hj1]
     ·rw [if_neg hji]
      exact hbs (hno (fun j' hj' hlt=>hj2 j' (by omega)))
   obtain ⟨t1,t2,t3,t4⟩:=g.tx c d
   have hap:=diff_apply (a:=datD xs c) (b:=datD xs d) (by have:=good_len g.dat c; omega) (by have:=good_len g.dat d; omega)
   rw [hsrc]
   unfold pcompS
   rw [if_pos h1,if_neg (by simp),htx,h3,t3]
   simp only
   rw [if_neg (by simp),hap]
   simp only
   rw [if_neg (by simp),he.dg]
   exact right_dat g.asc g.chk hdx
theorem pack_find {xs:List Itm} {l base:List Dg} (g:PkGood xs l base) {i:Nat} (hi:i < l.length):findP (sealS (packB xs l base)) (keepS xs base) l[i]=(datD xs l[i],0):=by
 obtain ⟨E,h1,h2,h3⟩:=pack_ents g
 have hiE:i < E.length:=by omega
 unfold findP
 rw [h1,if_neg (by simp)]
 simp only
 have h4:E[i].d=l[i]:=by rw [(h3 i hiE).dg,getD_at hi]
 have h5:=idxE_at (entriesS_ok h1).1.nd hiE
 rw [h4] at h5
 rw [h5]
 simp only
 rw [pack_dat g h1 h2 h3 (i + 1) i (by omega) hiE,getD_at hi]
theorem add_sub {xs P:List Itm} {x:Itm} (ha:Asc xs) (hs:∀ y ∈ P,y ∈ xs) (hx:x ∈ xs) (hp:Asc P) (hc:chkI x=0):∃ Q,addS P x=(Q,0):=by
 have hk:(insS P x).2=0:=by
  cases hh:hitB P x.d (posI P x.d) with
  | false=>rw [insS_miss (asc_at hp x.d) hh]
  | true=>
   obtain ⟨hk,h1,h2⟩:=insS_hit (asc_at hp x.d) hh
   have h3:=asc_same ha (hs _ (List.getElem_mem hk)) hx h1
   rw [h2,if_pos (by rw [h3])]
 refine ⟨(insS P x).1,?_⟩
 unfold addS
 rw [if_neg (by simpa using hc)]
 exact Prod.ext rfl hk
theorem un_go {xs:List Itm} (ha:Asc xs) (hc:∀ x ∈ xs,chkI x=0) {dat:Nat->List UInt8 × Int} {E:List Pe} (hd:∀ i (h:i < E.length),(dat i).2=0/\(⟨E[i].d,(dat i).1⟩:Itm) ∈ xs):∀ (n k:Nat) (P:List Itm),(∀ y ∈ P,y ∈ xs)->Asc P->∃ Q,unGo dat E n k P=(Q,0)
 | 0,k,P,_,_=>⟨P,rfl⟩
 | n + 1,k,P,hs,hp=>by
  rw [unGo]
  cases he:E[k]? with
  | none=>exact ⟨P,rfl⟩
  | some e=>
   obtain ⟨hk,rfl⟩:=List.getElem?_eq_some_iff.1 he
   obtain ⟨h1,h2⟩:=hd k hk
   obtain ⟨Q,hQ⟩:=add_sub ha hs h2 hp (hc _ h2)
   simp only
   rw [if_neg (by simpa using h1),hQ,if_neg (by simp)]
   obtain ⟨g1,g2,_⟩:=ins_law hp (addS_ok hQ)
   exact un_go ha hc hd n (k + 1) Q (fun y hy=>by
    rcases (g2 y).1 hy with h | rfl
    ·exact hs y h
    ·exact h2) g1
theorem pack_unpack {xs:List Itm} {l base:List Dg} (g:PkGood xs l base):unpackS (sealS (packB xs l base)) (keepS xs base)=(keepS xs (l ++ base),0):=by
 obtain ⟨E,h1,h2,h3⟩:=pack_ents g
 have hk:Asc (keepS xs base):=asc_filter g.asc _
 have hdat:∀ i (h:i < E.length),(datS (sealS (packB xs l base)) (keepS xs base) E i).2=0/\(⟨E[i].d,(datS (sealS (packB xs l base)) (keepS xs base) E i).1⟩:Itm) ∈ xs:=fun i hi=>by
  have hil:i < l.length:=by omega
  rw [pack_dat g h1 h2 h3 (i + 1) i (by omega) hi,(h3 i hi).dg,getD_at hil]
  obtain ⟨x,hx,hxd⟩:=g.inl l[i] (List.getElem_mem hil)
  refine ⟨rfl,?_⟩
  rw [<-hxd,datD_mem g.asc hx]
  exact hx
 have hun:∃ Q,unpackS (sealS (packB xs l base)) (keepS xs base)=(Q,0):=by
  unfold unpackS
  rw [h1,if_neg (by simp)]
  exact un_go g.asc g.chk hdat _ _ _ (fun y hy=>(keep_mem.1 hy).1) hk
 obtain ⟨Q,hQ⟩:=hun
 rw [hQ]
 unfold unpackS at hQ
 rw [h1,if_neg (by simp)] at hQ
 simp only at hQ
 obtain ⟨r1,r2,r3,r4,r5,r6⟩:=unGo_law _ 0 _ Q (by simp) (by omega) hk (fun y hy=>g.chk y (keep_mem.1 hy).1) hQ
 have hin:∀ i (h:i < E.length),∀ y,y ∈ Q->y.d=E[i].d->y ∈ xs:=fun i hi y hy hyd=>by
  have h5:=(r4 i hi (by omega)).2
  rw [asc_same r1 hy h5 hyd]
  exact (hdat i hi).2
 refine congrArg (fun z=>(z,(0:Int))) (asc_ext r1 (asc_filter g.asc _) (fun y=>?_))
 have hm:y ∈ keepS xs (l ++ base) ↔ y ∈ xs/\y.d ∈ l ++ base:=keep_mem
 refine Iff.trans ?_ hm.symm
 constructor
 ·intro hy
  rcases r5 y hy with h | ⟨e,he,hed⟩
  ·obtain ⟨h5,h6⟩:=keep_mem.1 h
   exact ⟨h5,List.mem_append_right _ h6⟩
  ·obtain ⟨i,hi,rfl⟩:=List.getElem_of_mem he
   refine ⟨hin i hi y hy hed,List.mem_append_left _ ?_⟩
   rw [hed,(h3 i hi).dg,getD_at (by omega)]
   exact List.getElem_mem _
 ·rintro ⟨hy,hyd⟩
  rcases List.mem_append.1 hyd with h | h
  ·obtain ⟨i,hi,hid⟩:=List.getElem_of_mem h
   have hiE:i < E.length:=by omega
   have h5:=(r4 i hiE (by omega)).2
   have h6:E[i].d=y.d:=by rw [(h3 i hiE).dg,getD_at hi]; exact hid
   have h7:=asc_same g.asc (hdat i hiE).2 hy h6
   rwa [h7] at h5
  ·exact r3 y (keep_mem.2 ⟨hy,h⟩)
end Go.Proofs.YtijkieiihpiljaaGreat
