/- Joined texts: TtLw, TtLp, TtSo. -/
import Derived.Test.YtdedfkljaeloiaaGreatDoorTtCh
import Derived.Test.YtdedfkljaeloiaaGreatDoorG3
import Derived.Test.YtdedfkljaeloiaaGreatDoorG1
import Derived.Test.YtdedfkljaeloiaaGreatDoorG4
/- Edits of lists on paper. -/
set_option maxRecDepth 100000
set_option maxHeartbeats 16000000
open Go.Lib (hid)
namespace Go.Proofs.YtdedfkljaeloiaaGreatDoor
open Go.RowKit
set_option linter.unusedVariables false
theorem good_less {l:List Fl} (h:GoodF l) (s:Pa):GoodF (lessF l s):=by
 have hm:∀ x ∈ lessF l s,x ∈ l:=fun x hx=>(List.mem_filter.1 hx).1
 exact ⟨lessF_asc h.asc s,fun x hx=>h.path x (hm x hx),fun x hx y hy r=>h.free x (hm x hx) y (hm y hy) r⟩
theorem sz_less {l:List Fl} (h:SzF l) (s:Pa):SzF (lessF l s):=
 ⟨Nat.le_trans (List.length_filter_le _ _) h.len,fun x hx=>h.dat x ((List.mem_filter.1 hx).1)⟩
theorem withF_length (l:List Fl) (f:Fl):(withF l f).length<=l.length + 1:=by
 induction l with
 | nil=>simp [withF]
 | cons x l ih=>
  rw [withF]
  split
  ·simp; omega
  ·split <;> simp
theorem with_bad {l:List Fl} (h:AscF l) {f:Fl} (hf:pathB f.path=false):checkF (withF l f) ≠ 0:=fun e=>by
 have:=(check_ok e).path f ((withF_mem h f f).2 (.inl rfl))
 rw [hf] at this; cases this
theorem find_bad {l:List Fl} (h:GoodF l) {s:Pa} (hs:pathB s=false):findF l s=none:=by
 cases hf:findF l s with
 | none=>rfl
 | some d=>
  have:=h.path _ (findF_some hf)
  simp only at this
  rw [hs] at this; cases this
theorem withF_at:∀ {l:List Fl} {f:Fl} {k:Nat},AscF l->AtF l f.path k->withF l f=l.take k ++ f :: l.drop (if hitF l f.path k=true then k + 1 else k)
 | [],f,k,_,ha=>by
  have hk:=ha.le
  simp only [List.length_nil,Nat.le_zero] at hk
  subst hk
  rfl
 | x :: l,f,k,h,ha=>by
  have g:=List.pairwise_cons.1 h
  cases k with
  | zero=>
   have h1:=ha.hi 0 (by simp) (Nat.le_refl _)
   simp only [List.getElem_cons_zero] at h1
   rw [withF,if_neg h1]
   by_cases h2:x.path=f.path
   ·rw [if_pos h2,if_pos (by simp [hitF,h2])]; rfl
   ·rw [if_neg h2,if_neg (by simp [hitF,h2])]; rfl
  | succ k=>
   have h1:=ha.lo 0 (by simp) (by omega)
   simp only [List.getElem_cons_zero] at h1
   have ha2:AtF l f.path k:=⟨by have:=ha.le; simp at this; omega,fun j hj hjk=>by
    have:=ha.lo (j + 1) (by simp; omega) (by omega)
    simpa using this,fun j hj hkj=>by
    have:=ha.hi (j + 1) (by simp; omega) (by omega)
    simpa using this⟩
   have hh:hitF (x :: l) f.path (k + 1)=hitF l f.path k:=by unfold hitF; simp
   rw [withF,if_pos h1,withF_at g.2 ha2,hh]
   by_cases h2:hitF l f.path k=true
   ·rw [if_pos h2,if_pos h2]; rfl
   ·rw [if_neg h2,if_neg h2]; rfl
theorem hit_find {l:List Fl} {s:Pa} {k:Nat} (h:AscF l) (ha:AtF l s k):hitF l s k=(findF l s).isSome:=by
 cases hf:findF l s with
 | none=>
  unfold hitF
  cases hk:l[k]? with
  | none=>rfl
  | some x=>
   have:=findF_none hf x (List.mem_of_getElem? hk)
   simp [this]
 | some d=>
  have hm:=findF_some hf
  obtain ⟨j,hj,hjx⟩:=List.getElem_of_mem hm
  have hjk:j=k:=by
   rcases Nat.lt_trichotomy j k with h1 | h1 | h1
   ·have:=ha.lo j hj h1; rw [hjx] at this; exact absurd this (ltS_irrefl _)
   ·exact h1
   ·exfalso
    have hk:k < l.length:=by omega
    have h2:=ascF_at h hk hj h1
    rw [hjx] at h2
    exact ha.hi k hk (Nat.le_refl _) h2
  subst hjk
  unfold hitF
  rw [List.getElem?_eq_getElem hj,hjx]
  simp
theorem lessF_at {l:List Fl} {s:Pa} {k:Nat} (h:AscF l) (hk:k < l.length) (he:l[k].path=s):lessF l s=l.take k ++ l.drop (k + 1):=by
 have hsplit:l=l.take k ++ l[k] :: l.drop (k + 1):=by rw [<-List.drop_eq_getElem_cons hk,List.take_append_drop]
 have hne:∀ j (hj:j < l.length),j ≠ k->l[j].path ≠ s:=fun j hj hne e=>by
  have:=ascF_same h (List.getElem_mem hj) (List.getElem_mem hk) (by rw [e,he])
  rcases Nat.lt_or_gt_of_ne hne with h1 | h1
  ·have h2:=ascF_at h hj hk h1; rw [e,he] at h2; exact ltS_irrefl _ h2
  ·have h2:=ascF_at h hk hj h1; rw [e,he] at h2; exact ltS_irrefl _ h2
 unfold lessF
 conv=>lhs; rw [hsplit]
 rw [List.filter_append,List.filter_cons_of_neg (by simpa using he)]
 congr 1
 ·rw [List.filter_eq_self]
  intro x hx
  obtain ⟨j,hj,rfl⟩:=List.getElem_of_mem hx
  rw [List.length_take] at hj
  rw [List.getElem_take]
  simpa using hne j (by omega) (by omega)
 ·rw [List.filter_eq_self]
  intro x hx
  obtain ⟨j,hj,rfl⟩:=List.getElem_of_mem hx
  rw [List.length_drop] at hj
  rw [List.getElem_drop]
  simpa using hne (k + 1 + j) (by omega) (by omega)
def storeC (p:List Itm) (l:List Fl):StR:=if checkF l ≠ 0 then badR (checkF l) else storeF 101 p l
def setC (p:List Itm) (l:List Fl) (s d:Pa):StR:=if pathB s=false then badR 6 else storeC p (withF l ⟨s,d⟩)
def delC (p:List Itm) (l:List Fl) (s:Pa):StR:=if pathB s=false then badR 6 else if findF l s=none then badR 8 else storeC p (lessF l s)
structure InP (P:List Itm) (l:List Fl):Prop where
 good:GoodF l
 sz:SzF l
 sub:∀ y ∈ (pureF 101 l).1,y ∈ P
theorem InP.mono {P Q:List Itm} {l:List Fl} (h:InP P l) (hs:∀ y ∈ P,y ∈ Q):InP Q l:=⟨h.good,h.sz,fun y hy=>hs y (h.sub y hy)⟩
theorem good_path {l:List Fl} (h:GoodF l) {x:Fl} (hx:x ∈ l):x.path.length<=100:=by
 have:=h.path x hx
 unfold pathB at this
 simp only [Bool.and_eq_true,decide_eq_true_eq] at this
 exact this.1
theorem storeC_ok {p q:List Itm} {d:Int × Int} {l:List Fl} (ha:Asc p) (hs:SzF l) (h:storeC p l=(q,d,0)):Asc q/\d=(pureF 101 l).2/\(∀ y ∈ p,y ∈ q)/\InP q l:=by
 unfold storeC at h
 by_cases hc:checkF l=0
 ·rw [if_neg (by simpa using hc)] at h
  obtain ⟨g1,g2,g3⟩:=store_pure 101 ha h
  exact ⟨g1,g2,fun y hy=>(g3 y).2 (.inl hy),check_ok hc,hs,fun y hy=>(g3 y).2 (.inr hy)⟩
 ·rw [if_pos hc] at h
  exact absurd (congrArg (fun z=>z.2.2) h) hc
theorem storeC_ends {p:List Itm} {l:List Fl} (ha:Asc p) (hs:SzF l) (hc:checkF l=0):(storeC p l).2.2=0\/(storeC p l).2.2=16:=by
 unfold storeC
 rw [if_neg (by simpa using hc)]
 exact (store_ends 101 (by omega) ((check_ok hc).ok (Nat.le_refl _)) hs ha).1
theorem storeC_in {P:List Itm} {l:List Fl} (hP:Asc P) (h:InP P l):∃ q,storeC [] l=(q,(pureF 101 l).2,0)/\Asc q/\∀ y ∈ q,y ∈ P:=by
 have ho:=h.good.ok (Nat.le_refl 101)
 have e:=(store_ends 101 (p:=[]) (by omega) ho h.sz asc_nil).2 P hP (fun y hy=>by simp at hy) h.sub
 have hc:=ok_check h.good
 have e2:storeC [] l=storeF 101 [] l:=by unfold storeC; rw [if_neg (by simpa using hc)]
 have e3:storeF 101 [] l=((storeF 101 [] l).1,(storeF 101 [] l).2.1,0):=Prod.ext rfl (Prod.ext rfl e)
 obtain ⟨g1,g2,g3⟩:=store_pure 101 (p:=[]) asc_nil e3
 refine ⟨(storeF 101 [] l).1,by rw [e2,e3,g2],g1,fun y hy=>?_⟩
 rcases (g3 y).1 hy with h1 | h1
 ·simp at h1
 ·exact h.sub y h1
theorem load_law {P:List Itm} {l:List Fl} (hP:Asc P) (h:InP P l):∃ V,Vis P 101 (pureF 101 l).2 [] V/\V.Perm l:=by
 obtain ⟨V,h1,h2⟩:=visit_law 101 (pre:=[]) (by omega) (h.good.ok (Nat.le_refl 101)) h.sz hP h.sub (fun x hx=>by simpa using good_path h.good hx) (fun _=>rfl)
 refine ⟨V,h1,?_⟩
 have e:l.map (preF [])=l:=by
  rw [List.map_congr_left (g:=id) (fun x _=>by unfold preF; simp)]
  simp
 rwa [e] at h2
theorem set_law {p:List Itm} {l:List Fl} {s d:Pa} (hp:Asc p) (hl:AscF l) (hs:SzF (withF l ⟨s,d⟩)):(setC p l s d).2.2=16\/((setC p l s d).2.2=0 ↔ checkF (withF l ⟨s,d⟩)=0):=by
 unfold setC
 by_cases h:pathB s=false
 ·rw [if_pos h]
  exact .inr ⟨fun e=>absurd e (by decide),fun e=>absurd e (with_bad hl h)⟩
 ·rw [if_neg h]
  by_cases hc:checkF (withF l ⟨s,d⟩)=0
  ·rcases storeC_ends hp hs hc with e | e
   ·exact .inr ⟨fun _=>hc,fun _=>e⟩
   ·exact .inl e
  ·unfold storeC
   rw [if_pos hc]
   exact .inr ⟨fun e=>absurd e hc,fun e=>absurd e hc⟩
theorem del_law {p:List Itm} {l:List Fl} {s:Pa} (hp:Asc p) (hl:GoodF l) (hs:SzF l):(delC p l s).2.2=16\/((delC p l s).2.2=0 ↔ checkF (lessF l s)=0/\(findF l s).isSome=true):=by
 unfold delC
 by_cases h:pathB s=false
 ·rw [if_pos h]
  exact .inr ⟨fun e=>absurd e (by decide),fun e=>by rw [find_bad hl h] at e; exact absurd e.2 (by decide)⟩
 ·rw [if_neg h]
  by_cases hf:findF l s=none
  ·rw [if_pos hf]
   exact .inr ⟨fun e=>absurd e (by decide),fun e=>by rw [hf] at e; exact absurd e.2 (by decide)⟩
  ·rw [if_neg hf]
   have hc:=ok_check (good_less hl s)
   rcases storeC_ends hp (sz_less hs s) hc with e | e
   ·exact .inr ⟨fun _=>⟨hc,by rw [Option.isSome_iff_ne_none]; exact hf⟩,fun _=>e⟩
   ·exact .inl e
theorem setC_ok {p q:List Itm} {e:Int × Int} {l:List Fl} {s d:Pa} (h:setC p l s d=(q,e,0)):storeC p (withF l ⟨s,d⟩)=(q,e,0):=by
 unfold setC at h
 by_cases h1:pathB s=false
 ·rw [if_pos h1] at h
  exact absurd (congrArg (fun z=>z.2.2) h) (by show (6:Int) ≠ 0; decide)
 ·rwa [if_neg h1] at h
theorem delC_ok {p q:List Itm} {e:Int × Int} {l:List Fl} {s:Pa} (h:delC p l s=(q,e,0)):storeC p (lessF l s)=(q,e,0):=by
 unfold delC at h
 by_cases h1:pathB s=false
 ·rw [if_pos h1] at h
  exact absurd (congrArg (fun z=>z.2.2) h) (by show (6:Int) ≠ 0; decide)
 ·rw [if_neg h1] at h
  by_cases h2:findF l s=none
  ·rw [if_pos h2] at h
   exact absurd (congrArg (fun z=>z.2.2) h) (by show (8:Int) ≠ 0; decide)
  ·rwa [if_neg h2] at h
open Go.RowKit Go.Shelf
def GotSo (w:World) (a:Option Addr) (xs:List Itm) (m:Nat) (r:StR) (e:Ending) (w':World):Prop:=GotSt w a xs r e w'/\r.1.length<=xs.length + m
theorem GotSo.bad {w w':World} (a:Option Addr) (xs:List Itm) (m:Nat) (er:Int) (hb:Below w.heap.size w w'):GotSo w a xs m (badR er) (.returned (.tuple #[.slice none 0 0,.agg #[.int .u64 0,.int .u64 0],.int .i64 er])) w':=
 ⟨⟨none,0,rfl,PoolAt.none a xs hb,⟨Its.nil _ _ _,Nat.zero_le _,by simp [badR],by simp [badR]⟩,asc_nil⟩,by simp [badR]⟩
theorem res_cells {w W1 u:World} {a:Option Addr} {xs:List Itm} {c b:Nat} {r:StR} {ra:Option Addr} {rc:Nat} (hp:PoolIn w a xs c) (hb1:w.heap.size<=b) (hb2:b < W1.heap.size) (hw:Below w.heap.size w W1) (hat:PoolAt W1 a xs r.1 ra rc u) (hin:PoolIn u ra r.1 rc) (hasc:Asc r.1) (x y:Value) :
  GotSt w a xs r (.returned (.tuple #[.slice ra r.1.length rc,.agg #[.int .u64 r.2.1.1,.int .u64 r.2.1.2],.int .i64 r.2.2])) ((u.setCell ⟨b,0,none⟩ x).setCell ⟨b,1,none⟩ y):=by
 have hne:∀ ad,ra=some ad->0 < r.1.length->some b ≠ some ad.block:=by
  intro ad e hq e2
  have e2:=Option.some.inj e2
  rcases hat.2.2.1 with ⟨h1,h2⟩ | h1
  ·rw [h1] at e
   rw [h2] at hq
   have:=its_lt hp.its ad e hq
   omega
  ·have:=h1 ad e; omega
 have hin2:PoolIn ((u.setCell ⟨b,0,none⟩ x).setCell ⟨b,1,none⟩ y) ra r.1 rc:=(hin.grown (grownBy_setCellX _ _ _ _) hne).grown (grownBy_setCellX _ _ _ _) hne
 refine ⟨ra,rc,rfl,⟨hin2.its,hin2.cap,?_,((hw.trans (hat.2.2.2.mono hw.size)).setCell hb1 _).setCell hb1 _⟩,hin2,hasc⟩
 rcases hat.2.2.1 with h | h
 ·exact .inl h
 ·exact .inr (fun ad e=>Nat.le_trans hw.size (h ad e))
theorem Store_any (a:Option Addr) (xs:List Itm) (c:Nat) (la:Option Addr) (l:List Fl) (lc:Nat) (w:World) (hp:PoolIn w a xs c) (ha:Asc xs) (hl:Fls w.heap.size w la l) (hsz:SzF l) (hpl:∀ x ∈ l,x.path.length<=1000) (hlen:xs.length<=50000000) :
  Calls Tryz.prog 8 #[.slice a xs.length c,.slice la l.length lc] w (GotSo w a xs 20201 (storeC xs l)):=by
 have hll:=hsz.len
 obtain ⟨u1,hu1⟩:∃ u1,u1=w.alloc (.cells #[.int .u64 0,.int .u64 0] 35):=⟨_,rfl⟩
 have hb1:Below w.heap.size w u1:=by rw [hu1]; exact (Below.refl _ _).alloc (Nat.le_refl _) _
 have hz1:u1.heap.size=w.heap.size + 1:=by rw [hu1]; simp
 have HR1:Hid (BK w.heap.size #[.int .u64 0,.int .u64 0] 35 u1):=hid (by rw [hu1]; exact BK.new _ _ _)
 have HC:=hid (tcheck_any la l lc u1 (hl.ahead hb1) hll (fun x hx=>by have:=hpl x hx; omega) hsz.dat)
 have HS:=hid (fun W (hW:Below w.heap.size w W) (hg:GoodF l)=>store_any 101 a xs c la l lc W (hp.below hW) ha (hl.ahead hW) (by omega) (hg.ok (Nat.le_refl _)) hsz hpl (by have:l.length * 101<=200 * 101:=Nat.mul_le_mul_right _ hll; omega))
 have HP:=hid hp
 obtain ⟨R,hR⟩:∃ R,R=storeC xs l:=⟨_,rfl⟩
 rw [<-hR]
 unfold storeC at hR
 have HGO:Hid (checkF l=0->GoodF l):=hid check_ok
 generalize checkF l=ce at HC hR HGO
 have HQ:=hid hR
 rw [hu1] at HC
 have HU1:=hid hu1
 have HB1:=hid hb1
 clear hu1 hb1 hR hp hl hsz ha hpl
 obtain ⟨nl,hnl⟩:∃ k,k=l.length:=⟨_,rfl⟩
 obtain ⟨nx,hnx⟩:∃ k,k=xs.length:=⟨_,rfl⟩
 rw [<-hnl] at HC HS hll ⊢
 rw [<-hnx] at HS ⊢
 have HNX:=hid hnx
 clear hnl hnx
 go_enter Tryz.func8,Tryz.ntmps8
 go_wp2_with fail
 (with_reducible refine HC.out.mono ?_)
 rintro e u2 ⟨rfl,hb2⟩
 rw [<-HU1.out] at hb2
 have HB2:Hid (Below w.heap.size w u2):=hid (HB1.out.trans (hb2.mono HB1.out.size))
 have HR2:=hid (HR1.out.below hb2)
 have hz2:=hb2.size
 clear hb2 HC
 by_cases hce:ce=0
 ·subst hce
  have hS:=HS.out u2 HB2.out (HGO.out rfl)
  rw [if_neg (by simp)] at HQ
  rw [<-HQ.out] at hS
  have HST:=hid hS
  clear hS
  go_wp2_with fail
  (with_reducible refine HST.out.mono ?_)
  rintro e u9 ⟨⟨ra,rc,rfl,hpat,hpin,hasc⟩,hql⟩
  have hres:=fun x y=>res_cells (b:=w.heap.size) HP.out (Nat.le_refl _) (by omega) HB2.out hpat hpin hasc x y
  have hrc:=HR2.out.below hpat.2.2.2
  have HLQ:Hid (R.1.length<=xs.length + 20201):=hid (by have:=HNX.out; omega)
  obtain ⟨nq,hnq⟩:∃ nq,nq=R.1.length:=⟨_,rfl⟩
  rw [<-hnq] at hres ⊢
  clear hpat hpin hasc hql HST
  have HRE:Hid (R=R):=hid rfl
  generalize hg1:R.2.1.1=g1 at hres ⊢
  generalize hg2:R.2.1.2=g2 at hres ⊢
  generalize her:R.2.2=er at hres ⊢
  obtain ⟨t0,t1⟩:=hrc.c2
  obtain ⟨s0,s1⟩:=hrc.f2
  have hrc1:BK w.heap.size #[.int .u64 g1,.int .u64 0] 35 (u9.setCell ⟨w.heap.size,0,none⟩ (.int .u64 g1)):=hrc.set 0 _
  obtain ⟨t2,t3⟩:=hrc1.c2
  obtain ⟨s2,s3⟩:=hrc1.f2
  have hrc2:BK w.heap.size #[.int .u64 g1,.int .u64 g2] 35 ((u9.setCell ⟨w.heap.size,0,none⟩ (.int .u64 g1)).setCell ⟨w.heap.size,1,none⟩ (.int .u64 g2)):=hrc1.set 1 _
  obtain ⟨t4,t5⟩:=hrc2.c2
  have HFN:Hid (GotSo w a xs 20201 R (.returned (.tuple #[.slice ra nq rc,.agg #[.int .u64 g1,.int .u64 g2],.int .i64 er])) ((u9.setCell ⟨w.heap.size,0,none⟩ (.int .u64 g1)).setCell ⟨w.heap.size,1,none⟩ (.int .u64 g2))):=hid ⟨hres _ _,HLQ.out⟩
  clear hres hrc hrc1 hrc2 hg1 hg2 her hnq
  go_wp2_with fail
  refine bodyPost_ret (v:=.tuple #[.slice ra nq rc,.agg #[.int .u64 g1,.int .u64 g2],.int .i64 er]) (by simp [results,Tryz.results8,go_sem,t4,t5]) rfl ?_
  exact HFN.out
 ·rw [if_pos hce] at HQ
  have hrc:=HR2.out
  obtain ⟨t0,t1⟩:=hrc.c2
  obtain ⟨s0,s1⟩:=hrc.f2
  have hrc1:BK w.heap.size #[.int .u64 0,.int .u64 0] 35 (u2.setCell ⟨w.heap.size,0,none⟩ (.int .u64 0)):=hrc.set 0 _
  obtain ⟨t2,t3⟩:=hrc1.c2
  obtain ⟨s2,s3⟩:=hrc1.f2
  have hrc2:BK w.heap.size #[.int .u64 0,.int .u64 0] 35 ((u2.setCell ⟨w.heap.size,0,none⟩ (.int .u64 0)).setCell ⟨w.heap.size,1,none⟩ (.int .u64 0)):=hrc1.set 1 _
  obtain ⟨t4,t5⟩:=hrc2.c2
  have HFN:Hid (GotSo w a xs 20201 R (.returned (.tuple #[.slice none 0 0,.agg #[.int .u64 0,.int .u64 0],.int .i64 ce])) ((u2.setCell ⟨w.heap.size,0,none⟩ (.int .u64 0)).setCell ⟨w.heap.size,1,none⟩ (.int .u64 0))):=hid (by rw [HQ.out]; exact GotSo.bad a xs _ _ ((HB2.out.setCell (Nat.le_refl _) _).setCell (Nat.le_refl _) _))
  clear hrc hrc1 hrc2
  go_wp2_with fail
  refine bodyPost_ret (v:=.tuple #[.slice none 0 0,.agg #[.int .u64 0,.int .u64 0],.int .i64 ce]) (by simp [results,Tryz.results8,go_sem,t4,t5]) rfl ?_
  exact HFN.out
end Go.Proofs.YtdedfkljaeloiaaGreatDoor
