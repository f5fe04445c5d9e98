/- Joined texts: ApSn, ApSo, ApEc, ApJu, ApSe, ApMi. -/
import Derived.Test.YtdedfkljaeloiaaGreatDoorG11
import Derived.Test.YtdedfkljaeloiaaGreatDoorG8
import Derived.Test.YtdedfkljaeloiaaGreatDoorK2
/- approval.seen: the changes that a person sees. -/
set_option maxRecDepth 100000
set_option maxHeartbeats 16000000
open Go.Lib (hid)
namespace Go.Proofs.YtdedfkljaeloiaaGreatDoor
open Go.RowKit Go.Shelf
set_option linter.unusedVariables false
attribute [local go_sem] Oper.semAt_some
def mineB (who:Pa) (x:Ow):Bool:=x.2.any fun g=>decide (who ∈ g)
def seenL (L:List Ow) (who:Pa):List Fc:=(L.filter (mineB who)).map (·.1)
def Kz (B0:Nat) (W W':World):Prop:=W.heap.size<=W'.heap.size/\∀ k,k < B0->W'.heap[k]? = W.heap[k]?
theorem Kz.trans {B0:Nat} {A B C:World} (h:Kz B0 A B) (k:Kz B0 B C):Kz B0 A C:=⟨Nat.le_trans h.1 k.1,fun j hj=>(k.2 j hj).trans (h.2 j hj)⟩
theorem Kz.of {B0:Nat} {W W':World} (h:Below W.heap.size W W') (hB:B0<=W.heap.size):Kz B0 W W':=⟨h.size,fun k hk=>h.block k (by omega)⟩
theorem RoW.kz {α:Type} {f:α->List Value} {z:Nat} {t:TypeId} {B B0:Nat} {W W':World} {h:Hd} {l:List α} (hr:RoW f z t B W h l) (hk:Kz B0 W W') (hB:B<=B0):RoW f z t B W' h l:=by
 have hb:∀ ad,h.1=some ad->W'.heap[ad.block]? = W.heap[ad.block]?:=fun ad e=>hk.2 _ (Nat.lt_of_lt_of_le (hr.lt ad e) hB)
 refine ⟨hr.len,hr.cap,fun i hi=>?_,fun ad e=>?_,hr.lt⟩
 ·obtain ⟨b,off,ha,hlt,hc⟩:=hr.row i hi
  exact ⟨b,off,ha,hlt,fun j v hv=>(World.cell?_of_block (a:=⟨b,off + i * z + j,.none⟩) (show W'.heap[b]? = W.heap[b]? from hb ⟨b,off,.none⟩ ha)).trans (hc j v hv)⟩
 ·obtain ⟨cs,fz,h2⟩:=hr.ty ad e
  exact ⟨cs,fz,(hb ad e).trans h2⟩
theorem GrW.kz {B B0:Nat} {W W':World} {h:Hd} {G:List (List Pa)} (hr:GrW B W h G) (hk:Kz B0 W W') (hB:B<=B0):GrW B W' h G:=by
 obtain ⟨hs,h1,h2⟩:=hr
 exact ⟨hs,h1.kz hk hB,h2.imp (fun a b hab=>hab.kz hk hB)⟩
theorem OlW.kz {B B0:Nat} {W W':World} {h:Hd} {L:List Ow} (hr:OlW B W h L) (hk:Kz B0 W W') (hB:B<=B0):OlW B W' h L:=by
 obtain ⟨X,h1,h2⟩:=hr
 exact ⟨X,h1.kz hk hB,h2.imp (fun a b hab=>⟨hab.1,hab.2.kz hk hB⟩)⟩
theorem OlW.mono {B B':Nat} {W:World} {h:Hd} {L:List Ow} (hr:OlW B W h L) (hB:B<=B'):OlW B' W h L:=by
 obtain ⟨X,h1,h2⟩:=hr
 exact ⟨X,h1.mono hB,h2.imp (fun a b hab=>⟨hab.1,hab.2.mono hB⟩)⟩
theorem BK.kz {b:Nat} {cs:Array Value} {t:TypeId} {B0:Nat} {W W':World} (h:BK b cs t W) (hk:Kz B0 W W') (hB:b < B0):BK b cs t W':=(hk.2 b hB).trans h
theorem seen11_any (wb:Nat) (who:Pa) (x:Hd) (g:List Pa) (W:World) (hw:BK wb #[.string ⟨who.toArray⟩] 9 W) (hx:SrW W.heap.size W x g) (hn:(g.length:Int)<=1000000) :
  Calls Tryz.prog 67 (#[.slice x.1 x.2.1 x.2.2] ++ #[.pointer (some ⟨wb,0,none⟩)]) W fun e W'=>e = .returned (.bool (decide (who ∈ g)))/\Below W.heap.size W W':=by
 obtain ⟨a,n,c⟩:=x
 have hnl:=hx.len
 simp only at hnl
 subst hnl
 have HC:=hid (contains_St who a c g W hx hn)
 have c0:=hw.c1
 simp only [List.append_toArray,List.nil_append,List.cons_append]
 generalize decide (who ∈ g)=R at HC
 generalize g.length=gl at *
 clear hx hw
 go_enter Tryz.func67,Tryz.ntmps67
 go_wp2_with fail
 (with_reducible refine HC.out.mono ?_)
 rintro e w' ⟨rfl,rfl⟩
 go_wp2_with fail
 go_ret
 exact ⟨rfl,Below.refl _ _⟩
def fcV (x:Fc):Value:=.agg #[.string ⟨x.path.toArray⟩,.bool x.ho,.bool x.hn,.string ⟨x.old.toArray⟩,.string ⟨x.new.toArray⟩]
def ShO (L:List Ow):Prop:=∀ x ∈ L,(x.2.length:Int)<=1000/\∀ g ∈ x.2,(g.length:Int)<=1000
theorem seen1_in (lp n lb wb B0:Nat) (hn:1<=n) (a:Option Addr) (c:Nat) (L:List Ow) (who:Pa) (hL:L.length<=1000) (hS:ShO L) (hlb:lb < B0) (hwb:wb < B0) (J:List Fc->World->Prop) (Jx:World->Prop) (W:World) (hJ:∀ s W W',J s W->Below W.heap.size W W'->J s W')
  (hY:∀ pre x W,J pre W->pre ++ [x] <+: seenL L who->YieldAt Fence.wide (n - 1) Tryz.prog lp #[fcV x] W fun e W'=>(e = .returned (.bool true)/\J (pre ++ [x]) W'/\Kz B0 W W')\/(e = .returned (.bool false)/\Jx W'))
  (hb0:BK lb #[.slice a L.length c] 58 W) (hb1:BK wb #[.string ⟨who.toArray⟩] 9 W) (hol:OlW B0 W (a,L.length,c) L) (hBW:B0<=W.heap.size) (h0:J [] W) :
  CallsIn Fence.wide n Tryz.prog 65 (#[.func (.yield lp) #[] #[]] ++ #[.pointer (some ⟨lb,0,none⟩),.pointer (some ⟨wb,0,none⟩)]) W fun e W'=>(∃ v,e = .returned v)/\(J (seenL L who) W'\/Jx W'):=by
 refine callsIn_of_wp Tryz.func65 rfl trivial ?_ rfl
 simp only [Tryz.ntmps65,List.size_toArray,List.length_cons,List.length_nil,Nat.reduceAdd,Nat.reduceSub,Array.replicate_succ,Array.replicate_zero,List.push_toArray,List.append_toArray,List.nil_append,List.cons_append]
 have HY:=hid hY
 have HJ:=hid hJ
 have HB0:=hid hb0
 have HB1:=hid hb1
 have HOL:=hid hol
 have HSH:=hid hS
 obtain ⟨T,hT⟩:∃ T,T=seenL L who:=⟨_,rfl⟩
 rw [<-hT] at HY ⊢
 have HT:=hid hT
 obtain ⟨m,hm⟩:∃ m,m=L.length:=⟨_,rfl⟩
 have HM:=hid hm
 rw [<-hm] at HB0 HOL
 have hm2:m<=1000:=by rw [hm]; exact hL
 have a0:=HB0.out.c1
 clear hY hJ hb0 hb1 hT hm hol hS hL
 gi_wp2
 gi_loopw [9] (fun i wr=>∃ (k:Nat),i = .int .i64 (k:Int)/\k<=m/\Hid (J (seenL (L.take k) who) wr)/\Hid (Kz B0 W wr)) (fun i _=>m - (intOf i).toNat)
 case atStart=>exact ⟨0,rfl,by omega,hid (by simpa [seenL] using h0),hid ⟨Nat.le_refl _,fun _ _=>rfl⟩⟩
 case round=>
  clear h0 a0
  obtain ⟨k,rfl,hk,HJW,HK⟩:=hrel
  have hzk:=HK.out.1
  by_cases hlt:k < m
  ·have hki:(k:Int) < (m:Int):=by omega
   have hkl:k < L.length:=by rw [<-HM.out]; exact hlt
   have hol:=HOL.out.kz HK.out (Nat.le_refl _)
   obtain ⟨b0,o0,x,hab,hbb,q0,q1,q2,q3,q4,q5,hx⟩:=ol_cells hol hkl
   obtain ⟨hs1,hs2⟩:=HSH.out _ (List.getElem_mem hkl)
   have HTK:Hid (seenL (L.take (k + 1)) who=seenL (L.take k) who ++ (if mineB who L[k]=true then [L[k].1] else [])):=hid (by
    unfold seenL
    rw [List.take_succ_eq_append_getElem hkl,List.filter_append,List.map_append]
    congr 1
    cases h:mineB who L[k] <;> simp [h])
   have HPR:Hid (seenL (L.take (k + 1)) who <+: T):=hid (by
    rw [HT.out]
    refine ⟨seenL (L.drop (k + 1)) who,?_⟩
    unfold seenL
    rw [<-List.map_append,<-List.filter_append,List.take_append_drop])
   generalize L[k]=y at q0 q1 q2 q3 q4 q5 hx hs1 hs2 HTK
   obtain ⟨⟨P,ho,hh,ol,nw⟩,G⟩:=y
   obtain ⟨ga,gn,gc⟩:=x
   have hgn:=hx.len
   simp only at q0 q1 q2 q3 q4 hab hs1 hs2 hgn hx
   simp only [hdV] at q5
   subst hgn hab
   obtain ⟨v1,hv1⟩:∃ v1,v1=wr.alloc (.cells #[.string ⟨P.toArray⟩,.bool ho,.bool hh,.string ⟨ol.toArray⟩,.string ⟨nw.toArray⟩,.slice ga G.length gc] 90):=⟨_,rfl⟩
   have h1:Below wr.heap.size wr v1:=by rw [hv1]; exact (Below.refl _ _).alloc (Nat.le_refl _) _
   have HBV:=hid h1
   have HK1:Hid (BK wr.heap.size #[.string ⟨P.toArray⟩,.bool ho,.bool hh,.string ⟨ol.toArray⟩,.string ⟨nw.toArray⟩,.slice ga G.length gc] 90 v1):=hid (by rw [hv1]; exact BK.new _ _ _)
   have hkz1:=HK.out.trans (Kz.of h1 (by omega))
   have hw1:=HB1.out.kz hkz1 hwb
   have hgv:GrW v1.heap.size v1 (ga,G.length,gc) G:=(hx.kz (Kz.of h1 (by omega)) (Nat.le_refl _)).mono (by have:=h1.size; omega)
   have HC:=hid (containsF_Gr 67 #[.pointer (some ⟨wb,0,none⟩)] (fun g=>decide (who ∈ g)) ga gc G v1 hgv (by omega) ⟨enters_of Tryz.func67 (by kernel_rfl) rfl,fun z g W' hb hg hz=>seen11_any wb who z g W' (hw1.below hb) hz (by have:=hs2 g hg; omega)⟩)
   have HMB:Hid (mineB who (⟨P,ho,hh,ol,nw⟩,G)=G.any fun g=>decide (who ∈ g)):=hid rfl
   obtain ⟨c0,c1,c2,c3,c4,c5⟩:=HK1.out.c6
   have HV:=hid hv1
   rw [hv1] at c0 c1 c2 c3 c4 c5
   generalize (G.any fun g=>decide (who ∈ g))=mi at HC HMB
   clear hv1 h1 hol hw1 hgv hkz1 hx hs1 hs2
   gi_wp2
   refine ⟨trivial,?_⟩
   rw [<-HV.out]
   refine (callsIn_wide.2 HC.out).mono ?_
   rintro e w2 ⟨rfl,hb2⟩
   have hb12:=HBV.out.trans (hb2.mono HBV.out.size)
   have HK2:=hid (HK.out.trans (Kz.of hb12 (by omega)))
   have HJ2:=hid (HJ.out _ _ _ HJW.out hb12)
   obtain ⟨d0,d1,d2,d3,d4,d5⟩:=(HK1.out.below hb2).c6
   have hz2:=hb12.size
   clear hb2 hb12 HC HV HK1 HBV HJW c0 c1 c2 c3 c4 c5 q0 q1 q2 q3 q4 q5
   cases mi with
   | false=>
    have HJ3:Hid (J (seenL (L.take (k + 1)) who) w2):=hid (by rw [HTK.out,HMB.out]; simpa using HJ2.out)
    clear HTK HPR HMB HJ2
    gi_wp2
    refine ⟨fun f h=>(by cases h),?_⟩
    gi_wp2
    go_roundw
    case rel=>exact ⟨k + 1,by go_num,by omega,HJ3,HK2⟩
    case measure=>simp [intOf] <;> omega
   | true=>
    have HTK2:Hid (seenL (L.take (k + 1)) who=seenL (L.take k) who ++ [⟨P,ho,hh,ol,nw⟩]):=hid (by rw [HTK.out,HMB.out]; rfl)
    obtain ⟨fn,tmps,assign,body,hy,hR⟩:=HY.out _ ⟨P,ho,hh,ol,nw⟩ w2 HJ2.out (by rw [<-HTK2.out]; exact HPR.out)
    have HR:=hid hR
    simp only [fcV] at hy
    clear HTK HPR HMB HJ2 hR
    gi_wp2
    refine HR.out.mono ?_
    rintro e w6 (⟨rfl,hj6,hk6⟩ | ⟨rfl,hx6⟩)
    ·rw [<-HTK2.out] at hj6
     have HJ6:=hid hj6
     have HK6:=hid (HK2.out.trans hk6)
     clear hj6 hk6 HR hy d0 d1 d2 d3 d4 d5
     gi_wp2
     go_roundw
     case rel=>exact ⟨k + 1,by go_num,by omega,HJ6,HK6⟩
     case measure=>simp [intOf] <;> omega
    ·gi_wp2
     refine bodyPost_ret (results_none rfl _ _ _) rfl ?_
     exact ⟨⟨_,rfl⟩,.inr hx6⟩
  ·have hki:¬ (k:Int) < (m:Int):=by omega
   have HF:Hid (J T wr):=hid (by
    have h:=HJW.out
    rw [List.take_of_length_le (by have:=HM.out; omega),<-HT.out] at h
    exact h)
   clear HJW
   gi_wp2
   go_end0
   exact ⟨⟨_,rfl⟩,.inl HF.out⟩
attribute [local go_sem] Oper.semAt_some
theorem seen_any (a:Option Addr) (n c:Nat) (who:Pa) (w:World):Calls Tryz.prog 32 #[.slice a n c,.string ⟨who.toArray⟩] w fun e w'=>e = .returned (.func (.func 65) #[] #[.pointer (some ⟨w.heap.size,0,none⟩),.pointer (some ⟨w.heap.size + 1,0,none⟩)])/\w' = (w.alloc (.cells #[.slice a n c] 58)).alloc (.cells #[.string ⟨who.toArray⟩] 9):=by
 go_enter Tryz.func32,Tryz.ntmps32
 go_wp2_with fail
 go_ret
 exact ⟨rfl,rfl⟩
theorem seen_stops (lb wb B0:Nat) (a:Option Addr) (c:Nat) (L:List Ow) (who:Pa) (hL:L.length<=1000) (hS:ShO L) (hlb:lb < B0) (hwb:wb < B0) (w:World) (hB:B0<=w.heap.size)
  (hb0:BK lb #[.slice a L.length c] 58 w) (hb1:BK wb #[.string ⟨who.toArray⟩] 9 w) (hol:OlW B0 w (a,L.length,c) L) :
  SeqStopsK Fence.wide (5 - 1) Tryz.prog 65 #[.pointer (some ⟨lb,0,none⟩),.pointer (some ⟨wb,0,none⟩)] (fun x:Fc=>#[fcV x]) (Kz B0) (fun ys=>ys=seenL L who) (fun _=>True) (seenL L who).length w:=fun l J Jx W hW hA hAx hY h0=>by
 have hk:=Kz.of hW hB
 have h:=seen1_in l (5 - 1) lb wb B0 (by omega) a c L who hL hS hlb hwb J (fun W=>∃ pre,Jx pre W) W (fun s A B hj hb=>hA s A B none hj ⟨hb.os,hb.tape,hb.output,hb.size,fun k hk _=>hb.block k hk⟩ (fun r e=>by cases e))
  (fun pre x W1 hj hl=>YieldAt.mono (hY pre x W1 hj (by have:=hl.length_le; simp at this; omega)) (fun e w h=>h.elim .inl (fun ⟨h1,h2⟩=>.inr ⟨h1,_,h2⟩))) (hb0.kz hk hlb) (hb1.kz hk hwb) (hol.kz hk (Nat.le_refl _)) (Nat.le_trans hB hW.size) h0
 refine h.mono (fun e w' h=>⟨h.1,?_⟩)
 rcases h.2 with h | ⟨pre,h⟩
 ·exact .inl ⟨_,rfl,h⟩
 ·exact .inr ⟨pre,trivial,h⟩
abbrev TFc:TypeId:=42
def AxC (n:Nat) (a:Act) (x:Fc) (a':Act) (W:World):Prop:=∃ p,n<=p/\BK p (fcCs x).toArray TFc W/\a' = { tmps:=(a.tmps.setIfInBounds 7 (fcV x)).setIfInBounds 5 (.pointer (some ⟨p,0,none⟩)),defers:=[] }
structure CoI (z:Nat) (w:World) (pre:List Fc) (v:Value) (W:World):Prop where
 bx:BK z #[v] 38 W
 ow:W.ownsRow (z + 1) TFc 5 v pre.length (gcs fcCs pre)
 be:Below z w W
 sz:z + 1<=W.heap.size
theorem collectC_any {gf B0 N:Nat} {lb:Array Value} {S Sp:List Fc->Prop} (w:World) (eg:∀ args w,(callFunc gf args).run Tryz.prog w = .ok (.enter gf args) w) (hB:B0<=w.heap.size) (hN:(N:Int)<=1000000)
  (hseq:SeqStopsK Fence.wide (5 - 1) Tryz.prog gf lb (fun x:Fc=>#[fcV x]) (Kz B0) S Sp N w) :
  Calls Tryz.prog 64 #[.slice none 0 0,.func (.func gf) #[] lb] w fun e w'=>∃ va vc ss,e = .returned (.slice va (List.length ss) vc)/\S ss/\w'.ownsRow w.heap.size TFc 5 (.slice va ss.length vc) ss.length (gcs fcCs ss)/\Below w.heap.size w w':=by
 refine (callsIn_wide (n:=5)).1 ?_
 refine callsIn_of_wp_marks Tryz.func64 rfl trivial ?_ rfl
 simp only [Tryz.ntmps64,List.size_toArray,List.length_cons,List.length_nil,Nat.reduceAdd,Nat.reduceSub,Array.replicate_succ,Array.replicate_zero,List.push_toArray,List.append_toArray,List.nil_append,List.cons_append]
 obtain ⟨z,hz⟩:∃ z,z=w.heap.size:=⟨_,rfl⟩
 obtain ⟨y1,hy1⟩:∃ y1,y1=w.alloc (.cells #[.slice none 0 0] 38):=⟨_,rfl⟩
 have HZ1:Hid (y1.heap.size=z + 1):=hid (by rw [hy1,hz]; simp)
 have hb1:Below w.heap.size w y1:=by rw [hy1]; exact (Below.refl _ _).alloc (Nat.le_refl _) _
 have HI1:Hid (CoI z w [] (.slice none 0 0) y1):=hid ⟨by rw [hy1,hz]; exact BK.new _ _ _,World.ownsRow_nil _ _ _ _,by rw [hz]; exact hb1,by rw [hy1,hz]; simp⟩
 have HB1:=hid hb1
 have HY:=hid hy1
 have HZ:=hid hz
 clear hy1 hb1
 gi_wp2
 rw [<-HZ.out]
 clear hz
 rw [<-HY.out]
 refine rf_boxA (AxC y1.heap.size) rfl (by omega) (gf:=gf) (lb:=lb) rfl trivial eg hseq (fun h k=>h.trans k)
  (fun W l o o' hl ho hc hw=>⟨by simp,fun k hk=>World.putObj_heap_other (by have:=HZ1.out; have:=HZ.out; omega)⟩) HB1.out (fun _=>rfl)
  (fun pre W=>∃ v,CoI z w pre v W) (fun _ _ _=>False) ?hI (fun _ _ _ _ _ h _ _=>h.elim) ⟨_,HI1.out⟩ ?hAx ?assign ?body ?done (fun _ _ _ _ _ _ h _=>h.elim)
 case hI=>
  rintro pre W W' row ⟨v,h⟩ hg hr
  have hz1:=HZ1.out
  refine ⟨v,h.bx.grow hg (fun k e hk=>by have:=(hr k e).1; omega),?_,h.be.grown hg (by have:=h.sz; omega) (fun k e=>by have:=(hr k e).1; omega),Nat.le_trans h.sz hg.size⟩
  refine h.ow.kept hg ?_
  cases hv:v.ownBlock with
  | none=>exact .inl rfl
  | some k=>
   refine .inr (fun e=>?_)
   obtain ⟨_,o,ho,hc⟩:=hr k e.symm
   have:=(own_cellsT h.ow hv ho).1
   rw [hc] at this; cases this
 case hAx=>
  rintro x a' _ W W' row ⟨p,hp,hb,e⟩ hg hr
  refine ⟨p,hp,hb.grow hg (fun k hk hp=>?_),e⟩
  obtain ⟨_,o,ho,hc⟩:=hr k hk
  rw [hp,show W.heap[p]? = _ from hb] at ho
  cases ho
  cases hc
 case assign=>
  rintro l pre x W K ⟨v,h⟩ hK
  obtain ⟨W1,hW1⟩:∃ W1,W1=W.alloc (.cells (fcCs x).toArray 42):=⟨_,rfl⟩
  have hb:Below W.heap.size W W1:=by rw [hW1]; exact (Below.refl _ _).alloc (Nat.le_refl _) _
  have hz1:=HZ1.out
  have hzz:=HZ.out
  have hsz:=h.sz
  have HX:Hid (KeepsFrom y1.heap.size W W1/\Kz B0 W W1/\(∃ v,CoI z w pre v W1)/\BK W.heap.size (fcCs x).toArray TFc W1/\y1.heap.size<=W.heap.size):=hid ⟨by rw [hW1]; exact (KeepsOthers.alloc _ _).from _,Kz.of hb (by omega),⟨v,h.bx.below hb,own_below h.ow hb,h.be.trans (hb.mono (by omega)),Nat.le_trans h.sz hb.size⟩,by rw [hW1]; exact BK.new _ _ _,by omega⟩
  clear h hb hz1 hzz hsz
  subst hW1
  simp only [fcV,fcCs] at HX ⊢
  gi_wp2
  exact hK _ _ HX.out.1 HX.out.2.1 HX.out.2.2.1 ⟨W.heap.size,HX.out.2.2.2.2,HX.out.2.2.2.1,rfl⟩
 case body=>
  rintro l' pre x a' W hl ⟨v,h⟩ ⟨p,hp,hbp,rfl⟩ hlen
  obtain ⟨va,vc,rfl,hvc⟩:=ownsRow_sliceN h.ow
  obtain ⟨v',W2,hrun,hown',hg',hat'⟩:=append_fc rfl h.ow x (by omega) h.sz
  have hz1:=HZ1.out
  have hzz:=HZ.out
  have hsz:=h.sz
  have gA:=gal W (.cells (fcCs x).toArray 42)
  have hlow:∀ k,(Value.slice va pre.length vc).ownBlock=some k->z + 1<=k:=fun k hk=>(h.ow.lt k hk).1
  have hbx1:BK z #[.slice va pre.length vc] 38 W2:=(h.bx.alloc _).grow hg' (fun k e hk=>by have:=hlow k e; omega)
  obtain ⟨a2,c2,hv2,_⟩:=ownsRow_sliceN hown'
  subst hv2
  have hgs:=gset W2 z 0 (.slice a2 (pre.length + 1) c2)
  have hpl:(pre.length:Int)<=1000000:=by omega
  have HFN:Hid (CoI z w (pre ++ [x]) (.slice a2 (pre.length + 1) c2) (W2.setCell ⟨z,0,none⟩ (.slice a2 (pre.length + 1) c2))):=hid ⟨hbx1.set 0 _,by rw [List.length_append]; exact own_kept hown' hgs (by omega),((h.be.alloc (by omega) _).grown hg' (by simp; omega) (fun k e=>by have:=hlow k e; omega)).setCell (by simp) _,by have:=hg'.size; simp at this; simp [World.setCell]; omega⟩
  have HKF:Hid (KeepsOthers W (W2.setCell ⟨z,0,none⟩ (.slice a2 (pre.length + 1) c2))):=hid ((KeepsOthers.alloc _ _).trans (KeepsOthers.trans ⟨hg'.size,fun k o hk ho=>(hg'.block k (Array.getElem?_eq_some_iff.1 hk).1 (fun e=>by have:=(own_cellsT (h.ow.alloc _) e.symm hk).1; rw [ho] at this; cases this)).trans hk⟩ (KeepsOthers.setCell _ _ _)))
  have HKZ:Hid (Kz B0 W (W2.setCell ⟨z,0,none⟩ (.slice a2 (pre.length + 1) c2))):=hid ⟨by have:=hg'.size; simp at this; simp [World.setCell]; omega,fun k hk=>(Below.heap_setCell _ _ _ _ (by simp; omega)).trans ((hg'.block k (by simp; omega) (fun e=>by have:=hlow k e.symm; omega)).trans (Below.heap_alloc _ _ _ (by omega)))⟩
  have e0:=h.bx.c1
  obtain ⟨P,ho,hh,ol,nw⟩:=x
  simp only [fcCs] at hbp hrun
  obtain ⟨e1,e2,e3,e4,e5⟩:=hbp.c5
  have f0:=hbx1.frozen 0
  have g0:=hbx1.c1
  have HRUN:=hid hrun.out
  obtain ⟨pl,hpl2⟩:∃ pl,pl=pre.length:=⟨_,rfl⟩
  rw [<-hpl2] at HRUN HFN HKF HKZ e0 g0 hvc hpl
  clear hrun hown' hg' hat' hlow hbx1 hgs gA h hbp hz1 hzz hsz hpl2
  simp only [List.setIfInBounds_toArray,List.set_cons_succ,List.set_cons_zero,fcV]
  gi_wp2_with (gi_at_builtin; refine wpListIn_append_runT _ rfl _ _ _ _ rfl _ _ rfl rfl _ _ HRUN.out ?_)
  exact ⟨HKF.out.from _,HKZ.out,_,HFN.out⟩
 case done=>
  rintro D ys W hD hS ⟨v,h⟩ hdef
  obtain ⟨va,vc,rfl,hvc⟩:=ownsRow_sliceN h.ow
  have e0:=h.bx.c1
  have hgD:=grownBy_putObj' W D (.deferred none)
  have hz1:=HZ1.out
  have hzz:=HZ.out
  have HO:Hid ((W.putObj D (.deferred none)).ownsRow w.heap.size TFc 5 (.slice va ys.length vc) ys.length (gcs fcCs ys)):=hid (by
   refine own_le (h.ow.kept hgD ?_) (by omega)
   cases hv:(Value.slice va ys.length vc).ownBlock with
   | none=>exact .inl rfl
   | some k=>
    refine .inr (fun e=>?_)
    cases e
    have:=(own_cellsT h.ow hv hdef).1
    cases this)
  have HBE:Hid (Below w.heap.size w (W.putObj D (.deferred none))):=hid ((by rw [<-hzz]; exact h.be:Below w.heap.size w W).grown hgD (by have:=h.sz; omega) (fun k e=>by cases e; omega))
  have HD:=hid hdef
  have HS:=hid hS
  clear h hgD hz1 hzz hdef hS
  gi_wp2
  refine ⟨by simp,.inl ⟨_,_,rfl,run_takeDeferred HD.out,?_⟩⟩
  exact ⟨_,results_tmp rfl _ _ _,va,vc,ys,rfl,HS.out,HO.out,HBE.out⟩
def GotCo (w:World) (T:List Fc) (e:Ending) (w':World):Prop:=∃ va vc,e = .returned (.slice va T.length vc)/\w'.ownsRow w.heap.size TFc 5 (.slice va T.length vc) T.length (gcs fcCs T)/\Below w.heap.size w w'
theorem collectS_any (lb wb B0:Nat) (a:Option Addr) (c:Nat) (L:List Ow) (who:Pa) (hL:L.length<=1000) (hS:ShO L) (hlb:lb < B0) (hwb:wb < B0) (w:World) (hB:B0<=w.heap.size)
  (hb0:BK lb #[.slice a L.length c] 58 w) (hb1:BK wb #[.string ⟨who.toArray⟩] 9 w) (hol:OlW B0 w (a,L.length,c) L) :
  Calls Tryz.prog 31 #[.func (.func 65) #[] #[.pointer (some ⟨lb,0,none⟩),.pointer (some ⟨wb,0,none⟩)]] w (GotCo w (seenL L who)):=by
 have hl:(seenL L who).length<=1000:=by
  unfold seenL
  rw [List.length_map]
  exact Nat.le_trans (List.length_filter_le _ _) hL
 have H:=hid (collectC_any w (enters_of Tryz.func65 (by kernel_rfl) rfl) hB (by omega) (seen_stops lb wb B0 a c L who hL hS hlb hwb w hB hb0 hb1 hol))
 clear hb0 hb1 hol
 go_enter Tryz.func31,Tryz.ntmps31
 go_wp2_with fail
 (with_reducible refine H.out.mono ?_)
 rintro e w' ⟨va,vc,ss,rfl,rfl,hrow,hb⟩
 have HR:=hid hrow
 have HB:=hid hb
 clear hrow hb H
 go_wp2_with fail
 go_ret
 exact ⟨va,vc,rfl,HR.out,HB.out⟩
def flagN (b:Bool):Int:=if b then 1 else 0
theorem flag_any (b:Bool) (w:World):Calls Tryz.prog 74 #[.bool b] w fun e w'=>e = .returned (.int .i64 (flagN b))/\w' = w:=by
 cases b with
 | true=>
  go_enter Tryz.func74,Tryz.ntmps74
  go_wp2_with fail
  go_ret
  exact ⟨rfl,rfl⟩
 | false=>
  go_enter Tryz.func74,Tryz.ntmps74
  go_wp2_with fail
  go_ret
  exact ⟨rfl,rfl⟩
def encFc (c:Fc):Pa:=(putT c.path).1 ++ (putI (flagN c.ho)).1 ++ (putI (flagN c.hn)).1 ++ (putT c.old).1 ++ (putT c.new).1
def encL (l:List Fc):Pa:=(putI l.length).1 ++ l.flatMap encFc
structure EnI (z:Nat) (w:World) (l:Pa) (W:World):Prop where
 ex:∃ v,BK z #[v] 137 W/\W.ownsRow (z + 1) 5 1 v l.length (Lib.byteCells l)
 be:Below z w W
 sz:z + 1<=W.heap.size
theorem EnI.below {z:Nat} {w W W':World} {l:Pa} (h:EnI z w l W) (hb:Below W.heap.size W W'):EnI z w l W':=by
 obtain ⟨v,h1,h2⟩:=h.ex
 exact ⟨⟨v,h1.below hb,own_below h2 hb⟩,h.be.trans (hb.mono (by have:=h.sz; omega)),Nat.le_trans h.sz hb.size⟩
theorem EnI.add {z:Nat} {w W:World} {l:Pa} (h:EnI z w l W) (s:Pa) (hn:l.length + s.length<=140737488355328) :
  ∃ v a' n' c' W',BK z #[v] 137 W/\(Builtin.append_ #[137,9] 137 #[v,.string ⟨s.toArray⟩]).run Tryz.prog W = .ok (.slice a' n' c') W'/\W'.frozen? ⟨z,0,none⟩=false/\W'.cell? ⟨z,0,none⟩=some v/\EnI z w (l ++ s) (W'.setCell ⟨z,0,none⟩ (.slice a' n' c'))/\(∀ b cs t,BK b cs t W->b ≠ z->t ≠ 5->BK b cs t (W'.setCell ⟨z,0,none⟩ (.slice a' n' c'))):=by
 obtain ⟨v,h1,h2⟩:=h.ex
 obtain ⟨i0,hi,hz0,hz1,hz2⟩:=info_parts infoByte
 obtain ⟨v',W',hr,ho,hg,_⟩:=Lib.run_append_own_string (P:=Tryz.prog) W (z + 1) 137 9 137 5 i0 Tryz.underlying137 Tryz.underlying9 hi hz0 hz1 hz2 v l.length (Lib.byteCells l) h2 ⟨s.toArray⟩ (by rw [ba_len]; unfold maxLen; omega) (by rw [ba_len]; exact hn) h.sz
 rw [ba_len,show Lib.strCells ⟨s.toArray⟩=Lib.byteCells s from rfl,<-byteCells_append] at ho
 have hlow:∀ k,v.ownBlock=some k->z + 1<=k:=fun k hk=>(h2.lt k hk).1
 have h3:BK z #[v] 137 W':=h1.grow hg (fun k e hk=>by have:=hlow k e; omega)
 obtain ⟨a',c',hv',_⟩:=ownsRow_sliceN ho
 subst hv'
 have hgs:=gset W' z 0 (.slice a' (l.length + s.length) c')
 refine ⟨v,a',_,c',W',h1,hr,h3.frozen 0,h3.c1,⟨⟨_,h3.set 0 _,by rw [List.length_append]; exact own_kept ho hgs (by omega)⟩,(h.be.grown hg (by have:=h.sz; omega) (fun k e=>by have:=hlow k e; omega)).setCell (by simp) _,by have:=h.sz; have:=hg.size; simp [World.setCell]; omega⟩,fun b cs t hb hz ht=>(hb.grow hg (fun k e hk=>?_)).other hz.symm 0 _⟩
 subst hk
 exact ht ((own_cellsT h2 e (show W.heap[k]? = _ from hb)).2 _ _ _ rfl)
theorem encNum_any {z:Nat} {w W:World} {l:Pa} (h:EnI z w l W) (n:Int) (hl:l.length<=1000000000):Calls Tryz.prog 70 #[.int .i64 n,.pointer (some ⟨z,0,none⟩)] W fun e W'=>(∃ v,e = .returned v)/\EnI z w (l ++ (putI n).1) W'/\∀ b cs t,BK b cs t W->b ≠ z->t ≠ 5->BK b cs t W':=by
 have HC:=hid (putInt_any n W)
 have hpl:(putI n).1.length<=10:=by
  unfold putI
  split
  ·exact enc_length _
  ·simp
 have H:=hid h
 unfold T2s at HC
 generalize (putI n).2=k at HC
 generalize (putI n).1=s at HC hpl ⊢
 clear h
 go_enter Tryz.func70,Tryz.ntmps70
 go_wp2_with fail
 (with_reducible refine HC.out.mono ?_)
 rintro e x1 ⟨rfl,hb⟩
 obtain ⟨v,a',n',c',W',hk,hrun,hf,hc,hi',hkp⟩:=(H.out.below hb).add s (by omega)
 have c0:=hk.c1
 have HI:=hid hi'
 have HKP:=hid (fun b cs t (hB:BK b cs t W) h1 h2=>hkp b cs t (hB.below hb) h1 h2)
 clear hk hi' hb HC H hkp
 go_wp2_with (at_builtin; refine Lib.wpList_append_run _ rfl _ _ _ _ rfl _ _ rfl rfl _ _ hrun ?_)
 go_end0
 exact ⟨⟨_,rfl⟩,HI.out,HKP.out⟩
theorem encTxt_any {z:Nat} {w W:World} {l:Pa} (h:EnI z w l W) (t:Pa) (ht:t.length<=65536) (hl:l.length<=1000000000):Calls Tryz.prog 72 #[.string ⟨t.toArray⟩,.pointer (some ⟨z,0,none⟩)] W fun e W'=>(∃ v,e = .returned v)/\EnI z w (l ++ (putT t).1) W'/\∀ b cs t,BK b cs t W->b ≠ z->t ≠ 5->BK b cs t W':=by
 have HC:=hid (putText_any ⟨t.toArray⟩ W (by rw [ba_len]; omega))
 have hpl:(putT t).1.length<=65546:=by
  unfold putT
  rw [if_pos ht]
  have:=enc_length t.length
  simp only [List.length_append]; omega
 have H:=hid h
 unfold T2s at HC
 simp only at HC
 generalize (putT t).2=k at HC
 generalize (putT t).1=s at HC hpl ⊢
 clear h
 go_enter Tryz.func72,Tryz.ntmps72
 go_wp2_with fail
 (with_reducible refine HC.out.mono ?_)
 rintro e x1 ⟨rfl,hb⟩
 obtain ⟨v,a',n',c',W',hk,hrun,hf,hc,hi',hkp⟩:=(H.out.below hb).add s (by omega)
 have c0:=hk.c1
 have HI:=hid hi'
 have HKP:=hid (fun b cs t (hB:BK b cs t W) h1 h2=>hkp b cs t (hB.below hb) h1 h2)
 clear hk hi' hb HC H hkp
 go_wp2_with (at_builtin; refine Lib.wpList_append_run _ rfl _ _ _ _ rfl _ _ rfl rfl _ _ hrun ?_)
 go_end0
 exact ⟨⟨_,rfl⟩,HI.out,HKP.out⟩
theorem encFc_len {c:Fc} (h1:c.path.length<=65536) (h2:c.old.length<=65536) (h3:c.new.length<=65536):(encFc c).length<=200000:=by
 have key:∀ {t:Pa},t.length<=65536->(putT t).1.length<=65546:=fun {t} ht=>by
  unfold putT
  rw [if_pos ht]
  have:=enc_length t.length
  simp only [List.length_append]; omega
 have key2:∀ n,(putI n).1.length<=10:=fun n=>by
  unfold putI
  split
  ·exact enc_length _
  ·simp
 have:=key h1
 have:=key h2
 have:=key h3
 have:=key2 (flagN c.ho)
 have:=key2 (flagN c.hn)
 unfold encFc
 simp only [List.length_append]; omega
def SmC (l:List Fc):Prop:=∀ c ∈ l,c.path.length<=65536/\c.old.length<=65536/\c.new.length<=65536
theorem flat_enc:∀ {l:List Fc},SmC l->(l.flatMap encFc).length<=l.length * 200000
 | [],_=>by simp
 | c :: l,h=>by
  have h1:=h c (by simp)
  have h2:=encFc_len h1.1 h1.2.1 h1.2.2
  have h3:=flat_enc (l:=l) (fun d hd=>h d (List.mem_cons_of_mem _ hd))
  rw [List.flatMap_cons,List.length_append,List.length_cons]; omega
theorem encL_ne (l:List Fc) (hl:l.length<=1000):encL l ≠ []:=by
 unfold encL putI
 rw [if_pos ((Cw.inR_iff _).2 ⟨by omega,by omega⟩)]
 simp [enc_ne]
theorem encodeC_any (a:Option Addr) (l:List Fc) (c:Nat) (w:World) (hl:Fcs w.heap.size w a l) (hn:l.length<=1000) (hs:SmC l) :
  Calls Tryz.prog 38 #[.slice a l.length c] w fun e w'=>e = .returned (.string ⟨(encL l).toArray⟩)/\Below w.heap.size w w':=by
 have HL:=hid hl
 have HS:=hid hs
 obtain ⟨z,hz⟩:∃ z,z=w.heap.size:=⟨_,rfl⟩
 obtain ⟨y1,hy1⟩:∃ y1,y1=w.alloc (.cells #[.slice none 0 0] 137):=⟨_,rfl⟩
 have HI1:Hid (EnI z w [] y1):=hid ⟨⟨_,by rw [hy1,hz]; exact BK.new _ _ _,World.ownsRow_nil _ _ _ _⟩,by rw [hy1,hz]; exact (Below.refl _ _).alloc (Nat.le_refl _) _,by rw [hy1,hz]; simp⟩
 have HC1:=hid (encNum_any HI1.out (l.length:Int) (by simp))
 obtain ⟨T,hT⟩:∃ T,T=encL l:=⟨_,rfl⟩
 have HT:=hid hT
 have HTN:Hid (T ≠ []):=hid (by rw [hT]; exact encL_ne l hn)
 obtain ⟨n,hnn⟩:∃ n,n=l.length:=⟨_,rfl⟩
 have HN:=hid hnn
 have HHD:Hid (T=(putI (n:Int)).1 ++ l.flatMap encFc):=hid (by rw [hT,hnn]; rfl)
 have hpn:(putI (n:Int)).1.length<=10:=by
  unfold putI
  split
  ·exact enc_length _
  ·simp
 rw [<-hnn] at HC1 hn ⊢
 rw [<-hT]
 have HY:=hid hy1
 have HZ:=hid hz
 generalize (putI (n:Int)).1=hd at HC1 HHD hpn
 clear hl hs hnn hy1 hT
 go_enter Tryz.func38,Tryz.ntmps38
 go_wp2_with fail
 rw [<-HZ.out]
 clear hz
 rw [<-HY.out]
 (with_reducible refine HC1.out.mono ?_)
 rintro e y2 ⟨⟨rv,rfl⟩,hi2,_⟩
 have HI2:=hid hi2
 clear hi2 HC1 HI1 HY
 go_wp2_with fail
 go_loopw [16] (fun i wr=>∃ k:Nat,i = .int .i64 (k:Int)/\k<=n/\Hid (EnI z w (hd ++ (l.take k).flatMap encFc) wr)) (fun i _=>n - (intOf i).toNat)
 case atStart=>exact ⟨0,rfl,by omega,hid (by simpa using HI2.out)⟩
 case round=>
  clear HI2
  obtain ⟨k,rfl,hk,HI⟩:=hrel
  by_cases hlt:k < n
  ·have hki:(k:Int) < (n:Int):=by omega
   have hkl:k < l.length:=by rw [<-HN.out]; exact hlt
   obtain ⟨b0,o0,hab,hb0,q0,q1,q2,q3,q4⟩:=fc_cells (HL.out.below (by have:=HI.out.be; rw [HZ.out] at this; exact this) (Nat.le_refl _)) hkl
   obtain ⟨hs1,hs2,hs3⟩:=HS.out _ (List.getElem_mem hkl)
   have hbnd:(hd ++ (l.take k).flatMap encFc).length<=300000000:=by
    have h1:=flat_enc (l:=l.take k) (fun c hc=>HS.out c (List.mem_of_mem_take hc))
    rw [List.length_take] at h1
    have h2:min k l.length * 200000<=1000 * 200000:=Nat.mul_le_mul_right _ (by omega)
    rw [List.length_append]; omega
   have HTK:Hid (hd ++ (l.take (k + 1)).flatMap encFc=(hd ++ (l.take k).flatMap encFc) ++ encFc l[k]):=hid (by rw [List.take_succ_eq_append_getElem hkl,List.flatMap_append,List.append_assoc]; simp)
   generalize l[k]=x at q0 q1 q2 q3 q4 hs1 hs2 hs3 HTK
   obtain ⟨P,ho,hh,ol,nw⟩:=x
   simp only at q0 q1 q2 q3 q4 hs1 hs2 hs3
   have HTK2:Hid (hd ++ (l.take (k + 1)).flatMap encFc=(((((hd ++ (l.take k).flatMap encFc) ++ (putT P).1) ++ (putI (flagN ho)).1) ++ (putI (flagN hh)).1) ++ (putT ol).1) ++ (putT nw).1):=hid (by rw [HTK.out]; simp only [encFc,List.append_assoc])
   generalize hd ++ (l.take k).flatMap encFc=E at HI hbnd HTK2
   subst hab
   obtain ⟨v1,hv1⟩:∃ v1,v1=wr.alloc (.cells #[.string ⟨P.toArray⟩,.bool ho,.bool hh,.string ⟨ol.toArray⟩,.string ⟨nw.toArray⟩] 42):=⟨_,rfl⟩
   have h1:Below wr.heap.size wr v1:=by rw [hv1]; exact (Below.refl _ _).alloc (Nat.le_refl _) _
   have HK1:Hid (BK wr.heap.size #[.string ⟨P.toArray⟩,.bool ho,.bool hh,.string ⟨ol.toArray⟩,.string ⟨nw.toArray⟩] 42 v1):=hid (by rw [hv1]; exact BK.new _ _ _)
   have hne:wr.heap.size ≠ z:=by have:=HI.out.sz; omega
   have hti:(42:TypeId) ≠ 5:=by decide
   have HI1:=hid (HI.out.below h1)
   have HCA:=hid (encTxt_any HI1.out P hs1 (by omega))
   have hpl:∀ {t:Pa},t.length<=65536->(putT t).1.length<=65546:=fun {t} ht=>by
    unfold putT
    rw [if_pos ht]
    have:=enc_length t.length
    simp only [List.length_append]; omega
   have hpi:∀ n,(putI n).1.length<=10:=fun n=>by
    unfold putI
    split
    ·exact enc_length _
    ·simp
   have hz1:=hpl hs1
   have hz2:=hpl hs2
   have hz3:=hpl hs3
   have hz4:=hpi (flagN ho)
   have hz5:=hpi (flagN hh)
   have HF1:=hid (fun W=>flag_any ho W)
   have HF2:=hid (fun W=>flag_any hh W)
   have HNU:Hid (∀ {L:Pa} {W:World} (n:Int),EnI z w L W->L.length<=1000000000->Calls Tryz.prog 70 #[.int .i64 n,.pointer (some ⟨z,0,none⟩)] W fun e W'=>(∃ v,e = .returned v)/\EnI z w (L ++ (putI n).1) W'/\∀ b cs t,BK b cs t W->b ≠ z->t ≠ 5->BK b cs t W'):=hid (fun n h hl=>encNum_any h n hl)
   have HTX:Hid (∀ {L:Pa} {W:World} (t:Pa),EnI z w L W->t.length<=65536->L.length<=1000000000->Calls Tryz.prog 72 #[.string ⟨t.toArray⟩,.pointer (some ⟨z,0,none⟩)] W fun e W'=>(∃ v,e = .returned v)/\EnI z w (L ++ (putT t).1) W'/\∀ b cs t,BK b cs t W->b ≠ z->t ≠ 5->BK b cs t W'):=hid (fun t h ht hl=>encTxt_any h t ht hl)
   obtain ⟨c0,c1,c2,c3,c4⟩:=HK1.out.c5
   have HV:=hid hv1
   rw [hv1] at c0 c1 c2 c3 c4
   clear hv1 h1 HI HTK hpl hpi
   go_wp2_with fail
   rw [<-HV.out]
   (with_reducible refine HCA.out.mono ?_)
   rintro e x1 ⟨⟨rv,rfl⟩,hi',hkp⟩
   have HK2:=hid (hkp _ _ _ HK1.out hne hti)
   have HI2:=hid hi'
   have HCB:=hid (HNU.out (flagN ho) HI2.out (by simp only [List.length_append]; omega))
   obtain ⟨c0,c1,c2,c3,c4⟩:=HK2.out.c5
   clear hi' hkp HCA HI1 HK1 HV
   go_wp2_with fail
   (with_reducible refine (HF1.out _).mono ?_)
   rintro e w' ⟨rfl,rfl⟩
   go_wp2_with fail
   (with_reducible refine HCB.out.mono ?_)
   rintro e x2 ⟨⟨rv,rfl⟩,hi',hkp⟩
   have HK3:=hid (hkp _ _ _ HK2.out hne hti)
   have HI3:=hid hi'
   have HCC:=hid (HNU.out (flagN hh) HI3.out (by simp only [List.length_append]; omega))
   obtain ⟨c0,c1,c2,c3,c4⟩:=HK3.out.c5
   clear hi' hkp HCB HI2 HK2 HF1
   go_wp2_with fail
   (with_reducible refine (HF2.out _).mono ?_)
   rintro e w' ⟨rfl,rfl⟩
   go_wp2_with fail
   (with_reducible refine HCC.out.mono ?_)
   rintro e x3 ⟨⟨rv,rfl⟩,hi',hkp⟩
   have HK4:=hid (hkp _ _ _ HK3.out hne hti)
   have HI4:=hid hi'
   have HCD:=hid (HTX.out ol HI4.out hs2 (by simp only [List.length_append]; omega))
   obtain ⟨c0,c1,c2,c3,c4⟩:=HK4.out.c5
   clear hi' hkp HCC HI3 HK3 HF2
   go_wp2_with fail
   (with_reducible refine HCD.out.mono ?_)
   rintro e x4 ⟨⟨rv,rfl⟩,hi',hkp⟩
   have HK5:=hid (hkp _ _ _ HK4.out hne hti)
   have HI5:=hid hi'
   have HCE:=hid (HTX.out nw HI5.out hs3 (by simp only [List.length_append]; omega))
   obtain ⟨c0,c1,c2,c3,c4⟩:=HK5.out.c5
   clear hi' hkp HCD HI4 HK4
   go_wp2_with fail
   (with_reducible refine HCE.out.mono ?_)
   rintro e x5 ⟨⟨rv,rfl⟩,hi',hkp⟩
   rw [<-HTK2.out] at hi'
   have HI6:=hid hi'
   clear hi' hkp HCE HI5 HK5 HTK2
   go_wp2_with fail
   go_roundw
   case rel=>exact ⟨k + 1,by go_num,by omega,HI6⟩
   case measure=>simp [intOf] <;> omega
  ·have hki:¬ (k:Int) < (n:Int):=by omega
   have hi':=HI.out
   rw [List.take_of_length_le (by have:=HN.out; omega),<-HHD.out] at hi'
   obtain ⟨v,hk,ho⟩:=hi'.ex
   have hcv:=conv_row ho HTN.out
   obtain ⟨va,vc,hv,_⟩:=ownsRow_sliceN ho
   subst hv
   have c0:=hk.c1
   have HB9:Hid (Below w.heap.size w wr):=hid (by have:=HI.out.be; rw [HZ.out] at this; exact this)
   clear hi' hk ho HI
   go_wp2_with fail
   go_ret
   exact ⟨rfl,HB9.out⟩
structure Ap where
 who:Pa
 ch:Int
 saw:Pa
def apCs (x:Ap):List Value:=[.string ⟨x.who.toArray⟩,.int .i64 x.ch,.string ⟨x.saw.toArray⟩]
def sawL (L:List Ow) (who:Pa):Pa:=encL (seenL L who)
structure JuI (lb vb mb B0 k:Nat) (a:Option Addr) (c:Nat) (L:List Ow) (W:World):Prop where
 bl:BK lb #[.slice a L.length c] 58 W
 bv:BK vb #[.map (some mb)] 93 W
 mm:∃ F,MapS mb k F W/\∀ s v,F s=some v->v = .string ⟨(sawL L s).toArray⟩
 ol:OlW B0 W (a,L.length,c) L
 l1:lb < B0
 l2:vb < B0
 l3:mb < B0
 n1:lb ≠ mb
 n2:vb ≠ mb
 sz:B0<=W.heap.size
theorem JuI.below {lb vb mb B0 k:Nat} {a:Option Addr} {c:Nat} {L:List Ow} {W W':World} (h:JuI lb vb mb B0 k a c L W) (hb:Below W.heap.size W W'):JuI lb vb mb B0 k a c L W':=by
 obtain ⟨F,h1,h2⟩:=h.mm
 exact ⟨h.bl.below hb,h.bv.below hb,⟨F,h1.below hb,h2⟩,h.ol.kz (Kz.of hb h.sz) (Nat.le_refl _),h.l1,h.l2,h.l3,h.n1,h.n2,Nat.le_trans h.sz hb.size⟩
theorem JuI.grow {lb vb mb B0 k:Nat} {a:Option Addr} {c:Nat} {L:List Ow} {W W':World} {row:Option Nat} (h:JuI lb vb mb B0 k a c L W) (hg:W.grownBy W' row) (hr:∀ j,row=some j->B0<=j):JuI lb vb mb B0 k a c L W':=by
 obtain ⟨F,h1,h2⟩:=h.mm
 have hs:=h.sz
 have hk:Kz B0 W W':=⟨hg.size,fun j hj=>hg.block j (by omega) (fun e=>by have:=hr j e.symm; omega)⟩
 exact ⟨h.bl.kz hk h.l1,h.bv.kz hk h.l2,⟨F,h1.kept hg (fun e=>by have:=hr mb e.symm; have:=h.l3; omega),h2⟩,h.ol.kz hk (Nat.le_refl _),h.l1,h.l2,h.l3,h.n1,h.n2,Nat.le_trans hs hg.size⟩
theorem JuI.put {lb vb mb B0 k:Nat} {a:Option Addr} {c:Nat} {L:List Ow} {W:World} (h:JuI lb vb mb B0 k a c L W) {s:Pa} (hs:s.length<=1000000) (hk:(k:Int)<=1000000000) :
  ∃ W',(Instr.mapUpdate 93 (.map (some mb)) (.string ⟨s.toArray⟩) (.string ⟨(sawL L s).toArray⟩)).run Tryz.prog W = .ok () W'/\JuI lb vb mb B0 (k + 1) a c L W'/\W.grownBy W' (some mb):=by
 obtain ⟨F,h1,h2⟩:=h.mm
 obtain ⟨W',g1,g2,g3,g4⟩:=h1.put Tryz.underlying93 hs hk (.string ⟨(sawL L s).toArray⟩)
 obtain ⟨es,clock,ho⟩:=h1.obj
 have hf:∀ ts B,Far ts B W (some mb):=fun ts B j e=>by cases e; exact .inr (fun t _ cs fz e=>by rw [ho] at e; cases e)
 refine ⟨W',g1,⟨h.bl.grow g3 (fun j e hj=>by cases e; exact h.n1 hj.symm),h.bv.grow g3 (fun j e hj=>by cases e; exact h.n2 hj.symm),⟨_,g2,fun t v ht=>?_⟩,h.ol.grow g3 (hf _ _) (Nat.le_refl _),h.l1,h.l2,h.l3,h.n1,h.n2,by have:=h.sz; omega⟩,g3⟩
 by_cases e:t=s
 ·simp only [if_pos e,Option.some.injEq] at ht
  rw [<-ht,e]
 ·simp only [if_neg e] at ht
  exact h2 t v ht
theorem zeroStrT (W:World):(zeroValue 9).run Tryz.prog W = .ok (.string ⟨#[]⟩) W:=by kernel_rfl
theorem gBel {w x y:World} {r:Option Nat} (h:w.grownBy x r) (hb:Below x.heap.size x y):w.grownBy y r:=gtrans h (by have h2:=gr_below hb; exact ⟨h2.os,h2.tape,h2.output,h2.size,fun k hk _=>h2.block k hk (by simp)⟩)
theorem stands_any {lb vb mb B0 k:Nat} {a:Option Addr} {c:Nat} {L:List Ow} {W:World} (h:JuI lb vb mb B0 k a c L W) (hk:(k:Int)<=1000000) (hL:L.length<=1000) (hS:ShO L) (hC:∀ who,SmC (seenL L who)) (x:Ap) (hw:x.who.length<=1000000) :
  Calls Tryz.prog 43 #[.agg #[.string ⟨x.who.toArray⟩,.int .i64 x.ch,.string ⟨x.saw.toArray⟩],.pointer (some ⟨vb,0,none⟩),.pointer (some ⟨lb,0,none⟩)] W fun e W'=>e = .returned (.bool (decide (x.saw=sawL L x.who)))/\JuI lb vb mb B0 (k + 1) a c L W'/\W.grownBy W' (some mb):=by
 obtain ⟨who,ch,saw⟩:=x
 simp only at hw ⊢
 have hSL:(seenL L who).length<=1000:=by
  unfold seenL
  rw [List.length_map]
  exact Nat.le_trans (List.length_filter_le _ _) hL
 obtain ⟨x1,hx1⟩:∃ x1,x1=W.alloc (.cells #[.string ⟨who.toArray⟩,.int .i64 ch,.string ⟨saw.toArray⟩] 47):=⟨_,rfl⟩
 have hb1:Below W.heap.size W x1:=by rw [hx1]; exact (Below.refl _ _).alloc (Nat.le_refl _) _
 have HJ1:=hid (h.below hb1)
 have HK1:Hid (BK W.heap.size #[.string ⟨who.toArray⟩,.int .i64 ch,.string ⟨saw.toArray⟩] 47 x1):=hid (by rw [hx1]; exact BK.new _ _ _)
 have HG1:Hid (W.grownBy x1 (some mb)):=hid (gBel (grefl W _) hb1)
 obtain ⟨c0,c1,c2⟩:=HK1.out.c3
 have e0:=HJ1.out.bv.c1
 have f0:=HJ1.out.bl.c1
 obtain ⟨F,m1,m2⟩:=HJ1.out.mm
 have hlook:=m1.lookOk Tryz.underlying93 (zeroStrT x1) hw
 have HX:=hid hx1
 have HSA:Hid (decide (saw=sawL L who)=(saw == sawL L who)):=hid (by rw [Bool.eq_iff_iff]; simp)
 have hLS:=hL
 have hmw:mb < W.heap.size:=Nat.lt_of_lt_of_le h.l3 h.sz
 obtain ⟨nl,hnl⟩:∃ nl,nl=L.length:=⟨_,rfl⟩
 have HNL:=hid hnl
 rw [hx1] at c0 c1 c2 e0 f0 hlook
 clear hx1 h hb1
 cases hF:F who with
 | some v=>
  have hv:=m2 who v hF
  subst hv
  rw [hF] at hlook
  simp only [Option.getD_some,Option.isSome_some] at hlook
  have HJ2:Hid (JuI lb vb mb B0 (k + 1) a c L x1):=hid { HJ1.out with mm:=by obtain ⟨F',h1,h2⟩:=HJ1.out.mm; exact ⟨F',h1.mono (by omega),h2⟩ }
  obtain ⟨S,hSq⟩:∃ S,S=sawL L who:=⟨_,rfl⟩
  rw [<-hSq] at hlook
  have HSQ:=hid hSq
  clear hSq
  clear m1 m2 hF hnl
  go_enter Tryz.func43,Tryz.ntmps43
  go_wp2_with fail
  rw [<-HX.out]
  go_ret
  refine ⟨?_,HJ2.out,HG1.out⟩
  show Ending.returned (Value.bool (saw == S))=_
  rw [HSQ.out,<-HSA.out]
 | none=>
  rw [hF] at hlook
  simp only [Option.getD_none,Option.isSome_none] at hlook
  rw [<-hnl] at f0
  have HSE:=hid (seen_any a nl c who x1)
  clear m1 m2 hF hnl
  go_enter Tryz.func43,Tryz.ntmps43
  go_wp2_with fail
  rw [<-HX.out]
  (with_reducible refine HSE.out.mono ?_)
  rintro e x2 ⟨rfl,hx2⟩
  have hb2:Below x1.heap.size x1 x2:=by rw [hx2]; exact ((Below.refl _ _).alloc (Nat.le_refl _) _).alloc (by simp) _
  have hz2:x2.heap.size=x1.heap.size + 2:=by rw [hx2]; simp
  have hs0:BK x1.heap.size #[.slice a L.length c] 58 x2:=by rw [hx2,<-HNL.out]; exact (BK.new _ _ _).alloc _
  have hs1:BK (x1.heap.size + 1) #[.string ⟨who.toArray⟩] 9 x2:=by rw [hx2]; exact BK.new2 _ _ _ _
  have hj2:=HJ1.out.below hb2
  have HJ2:=hid hj2
  have HG2:=hid (gBel HG1.out hb2)
  have HK2:=hid (HK1.out.below hb2)
  have HCO:=hid (collectS_any x1.heap.size (x1.heap.size + 1) x2.heap.size a c L who hLS hS (by omega) (by omega) x2 (Nat.le_refl _) hs0 hs1 (hj2.ol.mono hj2.sz))
  obtain ⟨c0,c1,c2⟩:=HK2.out.c3
  have e0:=HJ2.out.bv.c1
  clear hx2 hb2 hz2 hs0 hs1 hj2 HSE hlook
  go_wp2_with fail
  (with_reducible refine HCO.out.mono ?_)
  rintro e x3 ⟨va,vc,rfl,hrow,hb3⟩
  have hgi:Fcs x3.heap.size x3 va (seenL L who):=own_gin layFc rfl hrow
  have HEN:=hid (encodeC_any va (seenL L who) vc x3 hgi hSL (hC who))
  have HJ3:=hid (HJ2.out.below hb3)
  have HG3:=hid (gBel HG2.out hb3)
  have HK3:=hid (HK2.out.below hb3)
  have HSV:Hid (encL (seenL L who)=sawL L who):=hid rfl
  obtain ⟨S,hSq⟩:∃ S,S=sawL L who:=⟨_,rfl⟩
  rw [HSV.out,<-hSq] at HEN
  have HSQ:=hid hSq
  clear hSq
  generalize (seenL L who).length=sl at HEN
  clear hrow hb3 hgi HCO HJ2 HG2 HK2 c0 c1 c2 e0
  obtain ⟨c0,c1,c2⟩:=HK3.out.c3
  have e0:=HJ3.out.bv.c1
  go_wp2_with fail
  (with_reducible refine HEN.out.mono ?_)
  rintro e x4 ⟨rfl,hb4⟩
  have HJ4:=hid (HJ3.out.below hb4)
  have HG4:=hid (gBel HG3.out hb4)
  have HK4:=hid (HK3.out.below hb4)
  clear hb4 HEN HJ3 HG3 HK3 c0 c1 c2 e0
  obtain ⟨c0,c1,c2⟩:=HK4.out.c3
  have e0:=HJ4.out.bv.c1
  obtain ⟨x5,hput,hj5,hg5⟩:=HJ4.out.put hw (by omega)
  have HJ5:=hid hj5
  have HG5:=hid (gtrans HG4.out hg5)
  have hk5:BK W.heap.size #[.string ⟨who.toArray⟩,.int .i64 ch,.string ⟨saw.toArray⟩] 47 x5:=HK4.out.grow hg5 (fun j e hj=>by cases e; omega)
  obtain ⟨d0,d1,d2⟩:=hk5.c3
  rw [<-HSQ.out] at hput
  clear hj5 hg5 hk5 HJ4 HG4 HK4
  go_wp2_with fail
  go_ret
  refine ⟨?_,HJ5.out,HG5.out⟩
  show Ending.returned (Value.bool (saw == S))=_
  rw [HSQ.out,<-HSA.out]
def Sm1 (l:List Fl):Prop:=l.length<=200/\∀ x ∈ l,x.path.length<=1000/\x.data.length<=1000
theorem Sm1.sm {l:List Fl} (h:Sm1 l):SmF l:=⟨h.1,fun x hx=>by have:=h.2 x hx; omega⟩
theorem df_data:∀ (n:Nat) (l m:List Fl),Sm1 l->Sm1 m->∀ c ∈ dfS n l m,c.path.length<=1000/\c.old.length<=1000/\c.new.length<=1000
 | 0,_,_,_,_,c,h=>by simp [dfS] at h
 | n + 1,[],[],_,_,c,h=>by simp [dfS] at h
 | n + 1,x :: l,[],hl,hm,c,h=>by
  have hx:=hl.2 x (by simp)
  rw [dfS,List.mem_cons] at h
  rcases h with rfl | h
  ·exact ⟨hx.1,hx.2,by simp [mkFc]⟩
  ·exact df_data n l [] ⟨by have:=hl.1; simp at this; omega,fun y hy=>hl.2 y (List.mem_cons_of_mem _ hy)⟩ hm c h
 | n + 1,[],y :: m,hl,hm,c,h=>by
  have hy:=hm.2 y (by simp)
  rw [dfS,List.mem_cons] at h
  rcases h with rfl | h
  ·exact ⟨hy.1,by simp [mkFc],hy.2⟩
  ·exact df_data n [] m hl ⟨by have:=hm.1; simp at this; omega,fun z hz=>hm.2 z (List.mem_cons_of_mem _ hz)⟩ c h
 | n + 1,x :: l,y :: m,hl,hm,c,h=>by
  have hx:=hl.2 x (by simp)
  have hy:=hm.2 y (by simp)
  have hl':Sm1 l:=⟨by have:=hl.1; simp at this; omega,fun z hz=>hl.2 z (List.mem_cons_of_mem _ hz)⟩
  have hm':Sm1 m:=⟨by have:=hm.1; simp at this; omega,fun z hz=>hm.2 z (List.mem_cons_of_mem _ hz)⟩
  rw [dfS] at h
  split at h
  ·rw [List.mem_cons] at h
   rcases h with rfl | h
   ·exact ⟨hx.1,hx.2,by simp [mkFc]⟩
   ·exact df_data n l (y :: m) hl' hm c h
  ·split at h
   ·rw [List.mem_cons] at h
    rcases h with rfl | h
    ·exact ⟨hy.1,by simp [mkFc],hy.2⟩
    ·exact df_data n (x :: l) m hl hm' c h
   ·split at h
    ·exact df_data n l m hl' hm' c h
    ·rw [List.mem_cons] at h
     rcases h with rfl | h
     ·exact ⟨hx.1,hx.2,hy.2⟩
     ·exact df_data n l m hl' hm' c h
theorem exL_len {l m:List Fl} (hl:Sm1 l) (hm:Sm1 m):(exL l m).length<=400:=by
 have:=df_len (l.length + m.length) l m
 have:=hl.1
 have:=hm.1
 unfold exL
 rw [List.length_map]
 unfold dfL
 omega
theorem exL_sh (l m:List Fl):ShO (exL l m):=fun x hx=>by
 obtain ⟨c,hc,rfl⟩:=List.mem_map.1 hx
 refine ⟨by have:=groups_len (l:=l) (P:=c.path); simp only; omega,fun g hg=>by have:=(groups_gd hg).2; omega⟩
theorem seenL_sub {L:List Ow} {who:Pa} {c:Fc} (h:c ∈ seenL L who):∃ x ∈ L,x.1=c:=by
 obtain ⟨x,hx,e⟩:=List.mem_map.1 h
 exact ⟨x,(List.mem_filter.1 hx).1,e⟩
theorem exL_sm {l m:List Fl} (hl:Sm1 l) (hm:Sm1 m) (who:Pa):SmC (seenL (exL l m) who):=fun c hc=>by
 obtain ⟨x,hx,rfl⟩:=seenL_sub hc
 obtain ⟨d,hd,rfl⟩:=List.mem_map.1 hx
 have:=df_data _ _ _ hl hm d hd
 simp only
 omega
def GotSe (w:World) (l m:List Fl) (who:Pa) (e:Ending) (w':World):Prop:=Below w.heap.size w w'/\∃ a n c k,e = .returned (.tuple #[.slice a n c,.int .i64 k])/\
 ((exOk l m/\k=0/\n=(seenL (exL l m) who).length/\Fcs w'.heap.size w' a (seenL (exL l m) who)/\n<=c)\/(¬ exOk l m/\k ≠ 0))
theorem seenF_any (a:Option Addr) (l:List Fl) (c:Nat) (a2:Option Addr) (m:List Fl) (c2:Nat) (who:Pa) (w:World) (hl:Fls w.heap.size w a l) (hm:Fls w.heap.size w a2 m) (hs:Sm1 l) (hs2:Sm1 m) :
  Calls Tryz.prog 13 #[.slice a l.length c,.slice a2 m.length c2,.string ⟨who.toArray⟩] w (GotSe w l m who):=by
 have HC:=hid (examine_any a l c a2 m c2 w hl hm hs.sm hs2.sm)
 have hel:=exL_len hs hs2
 have HSH:=hid (exL_sh l m)
 clear hl hm hs hs2
 go_enter Tryz.func13,Tryz.ntmps13
 go_wp2_with fail
 (with_reducible refine HC.out.mono ?_)
 rintro e x1 ⟨hb1,ea,en,ec,ek,rfl,hek⟩
 have HB1:=hid hb1
 clear hb1 HC
 rcases hek with ⟨h1,rfl,rfl,h4⟩ | ⟨h1,h2⟩
 ·have HOK:=hid h1
  have HOL:=hid h4
  obtain ⟨nl,hnl⟩:∃ nl,nl=(exL l m).length:=⟨_,rfl⟩
  have HNL:=hid hnl
  rw [<-hnl]
  have HSE:=hid (seen_any ea nl ec who x1)
  clear h1 h4 hnl
  go_wp2_with fail
  (with_reducible refine HSE.out.mono ?_)
  rintro e x2 ⟨rfl,hx2⟩
  have hb2:Below x1.heap.size x1 x2:=by rw [hx2]; exact ((Below.refl _ _).alloc (Nat.le_refl _) _).alloc (by simp) _
  have hz2:x2.heap.size=x1.heap.size + 2:=by rw [hx2]; simp
  have hs0:BK x1.heap.size #[.slice ea (exL l m).length ec] 58 x2:=by rw [hx2,<-HNL.out]; exact (BK.new _ _ _).alloc _
  have hs1:BK (x1.heap.size + 1) #[.string ⟨who.toArray⟩] 9 x2:=by rw [hx2]; exact BK.new2 _ _ _ _
  have HCO:=hid (collectS_any x1.heap.size (x1.heap.size + 1) x2.heap.size ea ec (exL l m) who (by omega) HSH.out (by omega) (by omega) x2 (Nat.le_refl _) hs0 hs1 (HOL.out.below hb2))
  have HB2:=hid (HB1.out.trans (hb2.mono HB1.out.size))
  clear hx2 hb2 hz2 hs0 hs1 HSE HB1
  go_wp2_with fail
  (with_reducible refine HCO.out.mono ?_)
  rintro e x3 ⟨va,vc,rfl,hrow,hb3⟩
  have HGI:Hid (Fcs x3.heap.size x3 va (seenL (exL l m) who)/\(seenL (exL l m) who).length<=vc):=hid ⟨own_gin layFc rfl hrow,own_cap hrow⟩
  have HB3:=hid (HB2.out.trans (hb3.mono HB2.out.size))
  clear hrow hb3 HCO HB2
  go_wp2_with fail
  go_ret2
  exact ⟨HB3.out,va,_,vc,0,rfl,.inl ⟨HOK.out,rfl,rfl,HGI.out.1,HGI.out.2⟩⟩
 ·have HOK:=hid h1
  clear h1
  go_wp2_with fail
  go_ret2
  exact ⟨HB1.out,none,0,0,ek,rfl,.inr ⟨HOK.out,h2⟩⟩
def GotSw (w:World) (l m:List Fl) (who:Pa) (e:Ending) (w':World):Prop:=Below w.heap.size w w'/\∃ (s:Pa) (k:Int),e = .returned (.tuple #[.string ⟨s.toArray⟩,.int .i64 k])/\
 ((exOk l m/\k=0/\s=sawL (exL l m) who)\/(¬ exOk l m/\k ≠ 0))
theorem saw_any (a:Option Addr) (l:List Fl) (c:Nat) (a2:Option Addr) (m:List Fl) (c2:Nat) (who:Pa) (w:World) (hl:Fls w.heap.size w a l) (hm:Fls w.heap.size w a2 m) (hs:Sm1 l) (hs2:Sm1 m) :
  Calls Tryz.prog 17 #[.slice a l.length c,.slice a2 m.length c2,.string ⟨who.toArray⟩] w (GotSw w l m who):=by
 have HC:=hid (seenF_any a l c a2 m c2 who w hl hm hs hs2)
 have hel:=exL_len hs hs2
 have HSM:=hid (exL_sm hs hs2 who)
 have HSE:Hid ((seenL (exL l m) who).length<=1000):=hid (by
  unfold seenL
  rw [List.length_map]
  exact Nat.le_trans (List.length_filter_le _ _) (by omega))
 have HSW:Hid (encL (seenL (exL l m) who)=sawL (exL l m) who):=hid rfl
 clear hl hm hs hs2
 go_enter Tryz.func17,Tryz.ntmps17
 go_wp2_with fail
 (with_reducible refine HC.out.mono ?_)
 rintro e x1 ⟨hb1,ea,en,ec,ek,rfl,hek⟩
 have HB1:=hid hb1
 clear hb1 HC
 rcases hek with ⟨h1,rfl,rfl,h4,_⟩ | ⟨h1,h2⟩
 ·have HOK:=hid h1
  have HEN:=hid (encodeC_any ea (seenL (exL l m) who) ec x1 h4 HSE.out HSM.out)
  generalize (seenL (exL l m) who).length=sl at HEN ⊢
  rw [HSW.out] at HEN
  clear h1 h4
  go_wp2_with fail
  (with_reducible refine HEN.out.mono ?_)
  rintro e x2 ⟨rfl,hb2⟩
  have HB2:=hid (HB1.out.trans (hb2.mono HB1.out.size))
  clear hb2 HEN HB1
  go_wp2_with fail
  go_ret2
  exact ⟨HB2.out,_,0,rfl,.inl ⟨HOK.out,rfl,rfl⟩⟩
 ·have HOK:=hid h1
  clear h1
  go_wp2_with fail
  go_ret2
  exact ⟨HB1.out,[],ek,rfl,.inr ⟨HOK.out,h2⟩⟩
theorem judge_any (a:Option Addr) (c:Nat) (L:List Ow) (w:World) (hol:OlW w.heap.size w (a,L.length,c) L):Calls Tryz.prog 20 #[.slice a L.length c] w fun e w'=>e = .returned (.func (.func 43) #[] #[.pointer (some ⟨w.heap.size + 1 + 1,0,none⟩),.pointer (some ⟨w.heap.size,0,none⟩)])/\JuI w.heap.size (w.heap.size + 1 + 1) (w.heap.size + 1) w'.heap.size 0 a c L w'/\Below w.heap.size w w':=by
 have hmm:=@run_makeMap Tryz.prog
 obtain ⟨x1,hx1⟩:∃ x1,x1=((w.alloc (.cells #[.slice a L.length c] 58)).alloc (.map #[] 0)).alloc (.cells #[.map (some (w.heap.size + 1))] 93):=⟨_,rfl⟩
 have hb:Below w.heap.size w x1:=by rw [hx1]; exact (((Below.refl _ _).alloc (Nat.le_refl _) _).alloc (by simp) _).alloc (by simp; omega) _
 have hz:x1.heap.size=w.heap.size + 3:=by rw [hx1]; simp
 have HJ:Hid (JuI w.heap.size (w.heap.size + 1 + 1) (w.heap.size + 1) x1.heap.size 0 a c L x1/\Below w.heap.size w x1):=hid ⟨⟨by rw [hx1]; exact ((BK.new _ _ _).alloc _).alloc _,by
   rw [hx1]
   have h:=BK.new ((w.alloc (.cells #[.slice a L.length c] 58)).alloc (.map #[] 0)) #[.map (some (w.heap.size + 1))] 93
   simp only [World.size_alloc] at h
   exact h,⟨_,by
   rw [hx1]
   have h:=(MapS.made (w.alloc (.cells #[.slice a L.length c] 58))).alloc (.cells #[.map (some (w.heap.size + 1))] 93)
   simp only [World.size_alloc] at h
   exact h,fun s v h=>by cases h⟩,hol.below hb,by omega,by omega,by omega,by omega,by omega,Nat.le_refl _⟩,hb⟩
 have HX:=hid hx1
 generalize L.length=n at hx1 HX
 clear hb hz hol hx1
 go_enter Tryz.func20,Tryz.ntmps20
 go_wp2_with fail
 rw [<-HX.out]
 go_ret
 exact ⟨rfl,HJ.out⟩
theorem layAp:Lay apCs 3:=⟨by decide,fun o=>rfl,fun o v hv=>by
 simp only [apCs,List.mem_cons,List.not_mem_nil,or_false] at hv
 rcases hv with rfl | rfl | rfl <;> rfl⟩
abbrev Aps (B:Nat) (W:World) (a:Option Addr) (l:List Ap):Prop:=GIn apCs 3 B W a l
theorem ap_cells {B:Nat} {W:World} {a:Option Addr} {l:List Ap} (h:Aps B W a l) {k:Nat} (hk:k < l.length):∃ b off,a=some ⟨b,off,none⟩/\b < B/\W.cell? ⟨b,off + k * 3,none⟩=some (.string ⟨(l[k].who).toArray⟩)/\W.cell? ⟨b,off + k * 3 + 1,none⟩=some (.int .i64 l[k].ch)/\W.cell? ⟨b,off + k * 3 + 2,none⟩=some (.string ⟨(l[k].saw).toArray⟩):=by
 obtain ⟨b,off,h1,h2,h3⟩:=h k hk
 exact ⟨b,off,h1,h2,h3 0 _ rfl,h3 1 _ rfl,h3 2 _ rfl⟩
def okA (L:List Ow) (ch:Int) (x:Ap):Bool:=decide (x.ch=ch) && decide (x.saw=sawL L x.who)
def apprB (L:List Ow) (ch:Int) (A:List Ap) (s:Pa):Bool:=A.any fun x=>decide (x.who=s) && okA L ch x
def missingS (l m:List Fl) (ch:Int) (A:List Ap):List (List Pa):=(requiredS l m).filter fun g=>!g.any (apprB (exL l m) ch A)
def apF (L:List Ow) (ch:Int) (A:List Ap) (s:Pa):Option Value:=if apprB L ch A s=true then some (.bool true) else none
theorem apF_snoc {L:List Ow} {ch:Int} {A:List Ap} {k:Nat} (hk:k < A.length) (h:okA L ch A[k]=true) (s:Pa):(if s=A[k].who then some (Value.bool true) else apF L ch (A.take k) s)=apF L ch (A.take (k + 1)) s:=by
 unfold apF apprB
 rw [List.take_succ_eq_append_getElem hk,List.any_append]
 by_cases hs:s=A[k].who
 ·rw [if_pos hs,if_pos]
  simp [h,hs]
 ·rw [if_neg hs]
  have:([A[k]].any fun x=>decide (x.who=s) && okA L ch x)=false:=by
   simp only [List.any_cons,List.any_nil,Bool.or_false,Bool.and_eq_false_iff,decide_eq_false_iff_not]
   exact .inl (fun e=>hs e.symm)
  rw [this,Bool.or_false]
theorem apF_same {L:List Ow} {ch:Int} {A:List Ap} {k:Nat} (hk:k < A.length) (h:okA L ch A[k]=false) (s:Pa):apF L ch (A.take k) s=apF L ch (A.take (k + 1)) s:=by
 unfold apF apprB
 rw [List.take_succ_eq_append_getElem hk,List.any_append]
 have:([A[k]].any fun x=>decide (x.who=s) && okA L ch x)=false:=by simp [h]
 rw [this,Bool.or_false]
theorem req_mem_go {l:List Fl}:∀ (gs acc:List (List Pa)) (g:List Pa),g ∈ gs.foldl reqStep acc->g ∈ acc\/g ∈ gs
 | [],acc,g,h=>.inl h
 | x :: gs,acc,g,h=>by
  rw [List.foldl_cons] at h
  rcases req_mem_go (l:=l) gs _ g h with h | h
  ·unfold reqStep at h
   split at h
   ·exact .inl h
   ·rcases List.mem_append.1 h with h | h
    ·exact .inl h
    ·simp at h; subst h; exact .inr (by simp)
  ·exact .inr (List.mem_cons_of_mem _ h)
theorem req_mem {l m:List Fl} {g:List Pa} (h:g ∈ requiredS l m):∃ p,g ∈ groupsS l p:=by
 rcases req_mem_go (l:=l) _ _ g h with h | h
 ·simp at h
 ·obtain ⟨p,_,hp⟩:=List.mem_flatMap.1 h
  exact ⟨p,hp⟩
structure MiI (lb vb mb B0 am ab Bq k:Nat) (a:Option Addr) (c:Nat) (L:List Ow) (ch:Int) (A:List Ap) (rh:Hd) (R:List (List Pa)) (w W:World):Prop where
 ju:JuI lb vb mb B0 k a c L W
 ma:MapS am k (apF L ch (A.take k)) W
 bx:BK ab #[.map (some am)] 63 W
 rq:GrW Bq W rh R
 be:Below w.heap.size w W
 l1:B0<=am
 l2:B0<=ab
 l3:am ≠ ab
 l4:w.heap.size<=mb
 l5:w.heap.size<=B0
 l6:Bq<=W.heap.size
section
variable {lb vb mb B0 am ab Bq k:Nat} {a:Option Addr} {c:Nat} {L:List Ow} {ch:Int} {A:List Ap} {rh:Hd} {R:List (List Pa)} {w W W':World}
theorem MiI.below (h:MiI lb vb mb B0 am ab Bq k a c L ch A rh R w W) (hb:Below W.heap.size W W'):MiI lb vb mb B0 am ab Bq k a c L ch A rh R w W':=
 ⟨h.ju.below hb,h.ma.below hb,h.bx.below hb,h.rq.grow (gr_below hb) (Far.none _ _ _) (Nat.le_refl _),h.be.trans (hb.mono h.be.size),h.l1,h.l2,h.l3,h.l4,h.l5,Nat.le_trans h.l6 hb.size⟩
theorem MiI.judged (h:MiI lb vb mb B0 am ab Bq k a c L ch A rh R w W) (hj:JuI lb vb mb B0 (k + 1) a c L W') (hg:W.grownBy W' (some mb)):JuI lb vb mb B0 (k + 1) a c L W'/\MapS am k (apF L ch (A.take k)) W'/\BK ab #[.map (some am)] 63 W'/\GrW Bq W' rh R/\Below w.heap.size w W'/\Bq<=W'.heap.size:=by
 obtain ⟨F,m1,m2⟩:=h.ju.mm
 obtain ⟨es,clock,ho⟩:=m1.obj
 have hmb:=h.ju.l3
 have h1:=h.l1
 have h2:=h.l2
 exact ⟨hj,h.ma.kept hg (fun e=>by cases e; omega),h.bx.grow hg (fun j e hj=>by cases e; omega),h.rq.grow hg (fun j e=>by cases e; exact .inr (fun t _ cs fz e=>by rw [ho] at e; cases e)) (Nat.le_refl _),h.be.grown hg h.be.size (fun j e=>by cases e; exact h.l4),Nat.le_trans h.l6 hg.size⟩
theorem MiI.no (h:MiI lb vb mb B0 am ab Bq k a c L ch A rh R w W) (hj:JuI lb vb mb B0 (k + 1) a c L W') (hg:W.grownBy W' (some mb)) (hk:k < A.length) (hn:okA L ch A[k]=false):MiI lb vb mb B0 am ab Bq (k + 1) a c L ch A rh R w W':=by
 obtain ⟨g1,g2,g3,g4,g5,g6⟩:=h.judged hj hg
 exact ⟨g1,(g2.mono (by omega)).eq (fun s=>apF_same hk hn s),g3,g4,g5,h.l1,h.l2,h.l3,h.l4,h.l5,g6⟩
theorem MiI.yes (h:MiI lb vb mb B0 am ab Bq k a c L ch A rh R w W) (hj:JuI lb vb mb B0 (k + 1) a c L W') (hg:W.grownBy W' (some mb)) (hk:k < A.length) (hn:okA L ch A[k]=true) (hw:A[k].who.length<=1000000) (hk2:(k:Int)<=1000000) :
  ∃ W2,(Instr.mapUpdate 63 (.map (some am)) (.string ⟨(A[k].who).toArray⟩) (.bool true)).run Tryz.prog W' = .ok () W2/\MiI lb vb mb B0 am ab Bq (k + 1) a c L ch A rh R w W2:=by
 obtain ⟨g1,g2,g3,g4,g5,g6⟩:=h.judged hj hg
 obtain ⟨W2,k1,k2,k3,k4⟩:=g2.put Tryz.underlying63 hw (by omega) (.bool true)
 obtain ⟨es,clock,ho⟩:=g2.obj
 have h1:=h.l1
 have h5:=h.l5
 exact ⟨W2,k1,g1.grow k3 (fun j e=>by cases e; exact h1),k2.eq (fun s=>apF_snoc hk hn s),g3.grow k3 (fun j e hj=>by cases e; exact h.l3 hj),g4.grow k3 (fun j e=>by cases e; exact .inr (fun t _ cs fz e=>by rw [ho] at e; cases e)) (Nat.le_refl _),g5.grown k3 g5.size (fun j e=>by cases e; omega),h.l1,h.l2,h.l3,h.l4,h.l5,by omega⟩
end
theorem miss1_any {am ab k:Nat} {F:Pa->Option Value} {W:World} (hm:MapS am k F W) (hb:BK ab #[.map (some am)] 63 W) (s:Pa) (hs:s.length<=1000000) (p:Bool) (hF:F s=if p=true then some (.bool true) else none):Calls Tryz.prog 22 (#[.string ⟨s.toArray⟩] ++ #[.pointer (some ⟨ab,0,none⟩)]) W fun e W'=>e = .returned (.bool p)/\Below W.heap.size W W':=by
 have hlook:=hm.look Tryz.underlying63 (zeroBoolT W) hs
 have c0:=hb.c1
 rw [hF] at hlook
 simp only [List.append_toArray,List.nil_append,List.cons_append]
 cases p with
 | true=>
  simp only [if_true,Option.getD_some] at hlook
  clear hm hb hF
  go_enter Tryz.func22,Tryz.ntmps22
  go_wp2_with fail
  go_ret
  exact ⟨rfl,Below.refl _ _⟩
 | false=>
  simp only [Bool.false_eq_true,if_false,Option.getD_none] at hlook
  clear hm hb hF
  go_enter Tryz.func22,Tryz.ntmps22
  go_wp2_with fail
  go_ret
  exact ⟨rfl,Below.refl _ _⟩
def GotMi (w:World) (l m:List Fl) (ch:Int) (A:List Ap) (e:Ending) (w':World):Prop:=Below w.heap.size w w'/\∃ a n c k,e = .returned (.tuple #[.slice a n c,.int .i64 k])/\
 ((exOk l m/\k=0/\n=(missingS l m ch A).length)\/(¬ exOk l m/\k ≠ 0))
structure MsI (u:World) (acc:List (List Pa)) (v:Value) (W:World):Prop where
 ex:∃ H:List Hd,W.ownsRow u.heap.size TSl 1 v acc.length (gcs slCs H)/\H.length=acc.length
 be:Below u.heap.size u W
theorem MsI.below {u W W':World} {acc:List (List Pa)} {v:Value} (h:MsI u acc v W) (hb:Below W.heap.size W W'):MsI u acc v W':=by
 obtain ⟨H,h1,h2⟩:=h.ex
 exact ⟨⟨H,own_below h1 hb,h2⟩,h.be.trans (hb.mono h.be.size)⟩
theorem MsI.add {u W:World} {acc:List (List Pa)} {v:Value} (h:MsI u acc v W) (x:Hd) (g:List Pa) (hn:(acc.length:Int)<=1000000) :
  ∃ v' W',Hid ((Builtin.append_ #[27,27] 27 #[v,.slice (some ⟨W.heap.size,0,none⟩) 1 1]).run Tryz.prog (W.alloc (.cells (slCs x).toArray TSl)) = .ok v' W')/\MsI u (acc ++ [g]) v' W'/\∃ row,(W.alloc (.cells (slCs x).toArray TSl)).grownBy W' row/\∀ k,row=some k->u.heap.size<=k:=by
 obtain ⟨H,h1,h2⟩:=h.ex
 obtain ⟨v',W',hrun,hown,hgr,_⟩:=append_sl (base:=u.heap.size) h2.symm h1 x hn h.be.size
 exact ⟨v',W',hrun,⟨⟨H ++ [x],by rw [List.length_append]; exact hown,by simp [h2]⟩,(h.be.alloc h.be.size _).grown hgr (by have:=h.be.size; simp; omega) (fun k e=>(h1.lt k e).1)⟩,_,hgr,fun k e=>(h1.lt k e).1⟩
theorem missing_any (aa:Option Addr) (A:List Ap) (ac:Nat) (ch:Int) (a:Option Addr) (l:List Fl) (c:Nat) (a2:Option Addr) (m:List Fl) (c2:Nat) (w:World) (ha:Aps w.heap.size w aa A) (hl:Fls w.heap.size w a l) (hm:Fls w.heap.size w a2 m) (hs:Sm1 l) (hs2:Sm1 m) (hA:A.length<=1000) (hA2:∀ x ∈ A,x.who.length<=1000000) :
  Calls Tryz.prog 7 #[.slice aa A.length ac,.int .i64 ch,.slice a l.length c,.slice a2 m.length c2] w (GotMi w l m ch A):=by
 have HC:=hid (examine_any a l c a2 m c2 w hl hm hs.sm hs2.sm)
 have HRQ:=hid (fun W (hb:Below w.heap.size w W)=>required_any a l c a2 m c2 W ((hl.below hb (Nat.le_refl _)).mono hb.size) ((hm.below hb (Nat.le_refl _)).mono hb.size) hs.sm hs2.sm (fun x hx=>(hs.2 x hx).2))
 have hel:=exL_len hs hs2
 have HSH:=hid (exL_sh l m)
 have HSM:=hid (exL_sm hs hs2)
 have HAP:=hid ha
 have HA2:=hid hA2
 have HRL:Hid ((requiredS l m).length<=4000):=hid (by
  have h1:=req_len (((dfL l m).map (·.path)).flatMap (groupsS l)) []
  have h2:=flat_len l ((dfL l m).map (·.path))
  have h3:=df_len (l.length + m.length) l m
  have h4:=hs.1
  have h5:=hs2.1
  rw [List.length_map] at h2
  unfold dfL at h1 h2
  unfold requiredS dfL
  simp only [List.length_nil,Nat.zero_add] at h1
  omega)
 have HMS:Hid (missingS l m ch A=(requiredS l m).filter fun g=>!g.any (apprB (exL l m) ch A)):=hid rfl
 have HGL:Hid (∀ g ∈ requiredS l m,g.length<=1000/\∀ x ∈ g,x.length<=1000000):=hid (fun g hg=>by
  obtain ⟨p,hp⟩:=req_mem hg
  have h1:=groups_sm (N:=1000) (fun x hx=>(hs.2 x hx).2) hp
  exact ⟨by have:=(groups_gd hp).2; omega,fun x hx=>by have:=h1 x hx; omega⟩)
 obtain ⟨na,hna⟩:∃ na,na=A.length:=⟨_,rfl⟩
 have HNA:=hid hna
 have hna2:na<=1000:=by omega
 rw [<-hna]
 clear ha hl hm hs hs2 hA hA2 hna
 go_enter Tryz.func7,Tryz.ntmps7
 go_wp2_with fail
 (with_reducible refine HC.out.mono ?_)
 rintro e x1 ⟨hb1,ea,en,ec,ek,rfl,hek⟩
 have HB1:=hid hb1
 have HRQ1:=hid (HRQ.out x1 hb1)
 clear hb1 HC HRQ
 rcases hek with ⟨h1,rfl,rfl,h4⟩ | ⟨h1,h2⟩
 ·have HOK:=hid h1
  have HOL:=hid h4
  obtain ⟨EL,hEL⟩:∃ EL,EL=exL l m:=⟨_,rfl⟩
  rw [<-hEL] at HOL HSH HSM HMS hel ⊢
  have HEL:=hid hEL
  obtain ⟨nl,hnl⟩:∃ nl,nl=EL.length:=⟨_,rfl⟩
  have HNL:=hid hnl
  rw [<-hnl]
  clear h1 h4 hEL hnl
  go_wp2_with fail
  (with_reducible refine HRQ1.out.mono ?_)
  rintro e x2 ⟨hb2,ra,rn,rc,rk,rfl,hrk⟩
  rcases hrk with ⟨_,rfl,rfl,hrg⟩ | ⟨hr1,_⟩
  ·have HOL2:=hid (HOL.out.below hb2)
   have HB2:=hid (HB1.out.trans (hb2.mono HB1.out.size))
   have HRG:=hid hrg
   have HJU:=hid (judge_any ea ec EL x2 HOL2.out)
   obtain ⟨RR,hRR⟩:∃ RR,RR=requiredS l m:=⟨_,rfl⟩
   rw [<-hRR] at HRL HMS HGL HRG ⊢
   obtain ⟨nr,hnr⟩:∃ nr,nr=RR.length:=⟨_,rfl⟩
   have HNR:=hid hnr
   rw [<-hnr] at HRL HRG ⊢
   rw [<-HNL.out] at HJU
   have hmm:=@run_makeMap Tryz.prog
   clear hb2 hrg HRQ1 HOL HB1 hRR hnr
   go_wp2_with fail
   (with_reducible refine HJU.out.mono ?_)
   rintro e x3 ⟨rfl,hju,hb3⟩
   obtain ⟨lb,hlb⟩:∃ lb,lb=x2.heap.size:=⟨_,rfl⟩
   rw [<-hlb] at hju ⊢
   obtain ⟨B0,hB0⟩:∃ B0,B0=x3.heap.size:=⟨_,rfl⟩
   obtain ⟨x4,hx4⟩:∃ x4,x4=(x3.alloc (.map #[] 0)).alloc (.cells #[.map (some B0)] 63):=⟨_,rfl⟩
   have hb4:Below x3.heap.size x3 x4:=by rw [hx4]; exact ((Below.refl _ _).alloc (Nat.le_refl _) _).alloc (by simp) _
   have hz4:x4.heap.size=B0 + 2:=by rw [hx4,hB0]; simp
   have HI4:Hid (MiI lb (lb + 1 + 1) (lb + 1) B0 B0 (B0 + 1) lb 0 ea ec EL ch A (ra,nr,rc) RR w x4):=hid (by
    have hsz:=hb3.size
    have hw2:=HB2.out.size
    refine ⟨by rw [hB0]; exact hju.below hb4,?_,?_,?_,(HB2.out.trans (hb3.mono hw2)).trans (hb4.mono (by omega)),Nat.le_refl _,by omega,by omega,by omega,by omega,by omega⟩
    ·rw [hx4,hB0]
     exact ((MapS.made x3).eq (fun s=>by simp [apF,apprB])).alloc _
    ·rw [hx4,hB0]
     have h:=BK.new (x3.alloc (.map #[] 0)) #[.map (some x3.heap.size)] 63
     simp only [World.size_alloc] at h
     exact h
    ·rw [hlb]
     exact ((HRG.out.grow (gr_below hb3) (Far.none _ _ _) (Nat.le_refl _))).grow (gr_below hb4) (Far.none _ _ _) (Nat.le_refl _))
   have HX4:=hid hx4
   have HBB:=hid hB0
   clear hju hb3 hb4 hx4 HJU HOL2 HRG hlb hB0 hz4
   go_wp2_with fail
   rw [<-HBB.out,<-HX4.out]
   clear HX4 HBB hmm
   go_loopw [43] (fun i wr=>∃ k:Nat,i = .int .i64 (k:Int)/\k<=na/\Hid (MiI lb (lb + 1 + 1) (lb + 1) B0 B0 (B0 + 1) lb k ea ec EL ch A (ra,nr,rc) RR w wr)) (fun i _=>na - (intOf i).toNat)
   case atStart=>exact ⟨0,rfl,by omega,HI4⟩
   case round=>
    clear HI4
    obtain ⟨k,rfl,hk,HI⟩:=hrel
    by_cases hlt:k < na
    ·have hki:(k:Int) < (na:Int):=by omega
     have hkl:k < A.length:=by rw [<-HNA.out]; exact hlt
     obtain ⟨b0,o0,hab,hb0,q0,q1,q2⟩:=ap_cells (HAP.out.below HI.out.be (Nat.le_refl _)) hkl
     have hwl:=HA2.out _ (List.getElem_mem hkl)
     have HNO:=hid (fun (W' W2:World) (hi:MiI lb (lb + 1 + 1) (lb + 1) B0 B0 (B0 + 1) lb k ea ec EL ch A (ra,nr,rc) RR w W') (hj:JuI lb (lb + 1 + 1) (lb + 1) B0 (k + 1) ea ec EL W2) (hg:W'.grownBy W2 (some (lb + 1))) (hn:okA EL ch A[k]=false)=>hi.no hj hg hkl hn)
     have HYS:=hid (fun (W' W2:World) (hi:MiI lb (lb + 1 + 1) (lb + 1) B0 B0 (B0 + 1) lb k ea ec EL ch A (ra,nr,rc) RR w W') (hj:JuI lb (lb + 1 + 1) (lb + 1) B0 (k + 1) ea ec EL W2) (hg:W'.grownBy W2 (some (lb + 1))) (hn:okA EL ch A[k]=true)=>hi.yes hj hg hkl hn hwl (by omega))
     generalize A[k]=x at q0 q1 q2 hwl HNO HYS
     obtain ⟨who,xc,saw⟩:=x
     simp only at q0 q1 q2 hwl HYS
     subst hab
     obtain ⟨v1,hv1⟩:∃ v1,v1=wr.alloc (.cells #[.string ⟨who.toArray⟩,.int .i64 xc,.string ⟨saw.toArray⟩] 47):=⟨_,rfl⟩
     have hb1:Below wr.heap.size wr v1:=by rw [hv1]; exact (Below.refl _ _).alloc (Nat.le_refl _) _
     have HI1:=hid (HI.out.below hb1)
     have HK1:Hid (BK wr.heap.size #[.string ⟨who.toArray⟩,.int .i64 xc,.string ⟨saw.toArray⟩] 47 v1):=hid (by rw [hv1]; exact BK.new _ _ _)
     have HST:=hid (stands_any HI1.out.ju (by omega) (by omega) HSH.out HSM.out ⟨who,xc,saw⟩ hwl)
     have hmb:lb + 1 < wr.heap.size:=Nat.lt_of_lt_of_le HI.out.ju.l3 HI.out.ju.sz
     obtain ⟨c0,c1,c2⟩:=HK1.out.c3
     have HV:=hid hv1
     rw [hv1] at c0 c1 c2
     clear hv1 hb1 HI
     by_cases hcc:xc=ch
     ·have hceq:(xc == ch)=true:=by simpa using hcc
      have HOA:Hid (okA EL ch ⟨who,xc,saw⟩=decide (saw=sawL EL who)):=hid (by unfold okA; simp [hcc])
      simp only at HST
      generalize decide (saw=sawL EL who)=st at HST HOA
      clear hcc
      go_wp2_with fail
      rw [<-HV.out]
      (with_reducible refine HST.out.mono ?_)
      rintro e v2 ⟨rfl,hj2,hg2⟩
      have HK2:Hid (BK wr.heap.size #[.string ⟨who.toArray⟩,.int .i64 xc,.string ⟨saw.toArray⟩] 47 v2):=hid (HK1.out.grow hg2 (fun j e hj=>by cases e; omega))
      cases st with
      | true=>
       obtain ⟨v3,hput,hi3⟩:=HYS.out _ _ HI1.out hj2 hg2 HOA.out
       obtain ⟨d0,d1,d2⟩:=HK2.out.c3
       have e0:=(HI1.out.judged hj2 hg2).2.2.1.c1
       have HI3:=hid hi3
       clear hi3 hj2 hg2 HST HI1 HK1 HK2 HNO HYS HOA HV c0 c1 c2 q0 q1 q2
       go_wp2_with fail
       go_roundw
       case rel=>exact ⟨k + 1,by go_num,by omega,HI3⟩
       case measure=>simp [intOf] <;> omega
      | false=>
       have HI3:=hid (HNO.out _ _ HI1.out hj2 hg2 HOA.out)
       clear hj2 hg2 HST HI1 HK1 HK2 HNO HYS HOA HV c0 c1 c2 q0 q1 q2
       go_wp2_with fail
       go_roundw
       case rel=>exact ⟨k + 1,by go_num,by omega,HI3⟩
       case measure=>simp [intOf] <;> omega
     ·have hceq:(xc == ch)=false:=by simpa using hcc
      have HI3:Hid (MiI lb (lb + 1 + 1) (lb + 1) B0 B0 (B0 + 1) lb (k + 1) ea ec EL ch A (ra,nr,rc) RR w v1):=hid (HNO.out _ _ HI1.out { HI1.out.ju with mm:=by obtain ⟨F',h1,h2⟩:=HI1.out.ju.mm; exact ⟨F',h1.mono (by omega),h2⟩ } (grefl _ _) (by unfold okA; simp [hcc]))
      clear HST HI1 HK1 HNO HYS hcc
      go_wp2_with fail
      rw [<-HV.out]
      go_roundw
      case rel=>exact ⟨k + 1,by go_num,by omega,HI3⟩
      case measure=>simp [intOf] <;> omega
    ·have hki:¬ (k:Int) < (na:Int):=by omega
     obtain ⟨x0,hx0⟩:∃ x0,x0=wr:=⟨_,rfl⟩
     rw [<-hx0] at HI ⊢
     clear hx0
     have HMA:Hid (MapS B0 k (apF EL ch A) x0):=hid (by have:=HI.out.ma; rwa [List.take_of_length_le (by have:=HNA.out; omega)] at this)
     have HBX:=hid HI.out.bx
     have HRR:=hid HI.out.rq
     have HBE:=hid HI.out.be
     have hlx:=HI.out.l6
     clear HI
     go_wp2_with fail
     go_loopw [62,17] (fun i v wr=>∃ j:Nat,i = .int .i64 (j:Int)/\j<=nr/\Hid (MsI x0 ((RR.take j).filter fun g=>!g.any (apprB EL ch A)) v wr)/\Hid (MapS B0 k (apF EL ch A) wr)/\Hid (BK (B0 + 1) #[.map (some B0)] 63 wr)/\Hid (GrW lb wr (ra,nr,rc) RR)) (fun i _ _=>nr - (intOf i).toNat)
     case atStart=>exact ⟨0,rfl,by omega,hid ⟨⟨[],World.ownsRow_nil _ _ _ _,rfl⟩,Below.refl _ _⟩,HMA,HBX,HRR⟩
     case round=>
      have HSX:Hid (B0 + 1 < x0.heap.size/\B0 < x0.heap.size):=hid ⟨HBX.out.lt,HMA.out.lt⟩
      clear HMA HBX HRR
      obtain ⟨j,rfl,hj,HM,HMA,HBX,HRR⟩:=hrel
      have hrl:=HRL.out
      have hfl:((RR.take j).filter fun g=>!g.any (apprB EL ch A)).length<=4000:=Nat.le_trans (List.length_filter_le _ _) (by rw [List.length_take]; have:=HRL.out; omega)
      by_cases hlt2:j < nr
      ·have hji:(j:Int) < (nr:Int):=by omega
       have hjl:j < RR.length:=by rw [<-HNR.out]; exact hlt2
       obtain ⟨b1,o1,x,hab,hb1,q1,hx⟩:=gr_cell HRR.out hjl
       obtain ⟨hg1,hg2⟩:=HGL.out _ (List.getElem_mem hjl)
       have HTF:Hid ((RR.take (j + 1)).filter (fun g=>!g.any (apprB EL ch A))=((RR.take j).filter fun g=>!g.any (apprB EL ch A)) ++ (if (RR[j].any (apprB EL ch A))=true then [] else [RR[j]])):=hid (by
        rw [List.take_succ_eq_append_getElem hjl,List.filter_append]
        congr 1
        cases h:RR[j].any (apprB EL ch A) <;> simp [h])
       generalize RR[j]=g at hx hg1 hg2 HTF
       obtain ⟨sa,sn,sc⟩:=x
       have hsn:=hx.len
       simp only at hsn hab
       simp only [hdV] at q1
       subst hsn hab
       have hws:=HM.out.be.size
       have HCF:=hid (containsF_St 22 #[.pointer (some ⟨B0 + 1,0,none⟩)] (apprB EL ch A) sa sc g wr (hx.mono (by omega)) (by omega) ⟨enters_of Tryz.func22 (by kernel_rfl) rfl,fun s s2 W' hb hs2 hss=>by
        have e:s=s2:=hss
        subst e
        exact miss1_any (HMA.out.below hb) (HBX.out.below hb) s (hg2 s hs2) (apprB EL ch A s) rfl⟩)
       obtain ⟨gl,hgl⟩:∃ gl,gl=g.length:=⟨_,rfl⟩
       have HGN:=hid hgl
       rw [<-hgl] at q1 HCF hg1
       generalize g.any (apprB EL ch A)=bb at HCF HTF
       clear hx hgl
       go_wp2_with fail
       (with_reducible refine HCF.out.mono ?_)
       rintro e v2 ⟨rfl,hb2⟩
       have HM2:=hid (HM.out.below hb2)
       have HMA2:=hid (HMA.out.below hb2)
       have HBX2:=hid (HBX.out.below hb2)
       have HRR2:=hid (HRR.out.grow (gr_below hb2) (Far.none _ _ _) (Nat.le_refl _))
       clear hb2 HCF HM HMA HBX HRR
       cases bb with
       | true=>
        have HM3:Hid (MsI x0 ((RR.take (j + 1)).filter fun g=>!g.any (apprB EL ch A)) _ v2):=hid (by rw [HTF.out,if_pos rfl,List.append_nil]; exact HM2.out)
        clear HTF HM2
        go_wp2_with fail
        go_roundw
        case rel=>exact ⟨j + 1,by go_num,by omega,HM3,HMA2,HBX2,HRR2⟩
        case measure=>simp [intOf] <;> omega
       | false=>
        obtain ⟨v',W',hrun,hm',row,hgw,hrw⟩:=HM2.out.add (sa,gl,sc) g (by omega)
        have HM3:Hid (MsI x0 ((RR.take (j + 1)).filter fun g=>!g.any (apprB EL ch A)) v' W'):=hid (by rw [HTF.out,if_neg (by simp)]; exact hm')
        have HMA3:Hid (MapS B0 k (apF EL ch A) W'):=hid ((HMA2.out.alloc _).kept hgw (fun e=>by have:=hrw _ e.symm; have:=HSX.out.2; omega))
        have HBX3:Hid (BK (B0 + 1) #[.map (some B0)] 63 W'):=hid ((HBX2.out.alloc _).grow hgw (fun j e hj=>by have:=hrw _ e; have:=HSX.out.1; omega))
        have HRR3:Hid (GrW lb W' (some ⟨b1,o1,none⟩,nr,rc) RR):=hid ((HRR2.out.grow (gr_below ((Below.refl _ _).alloc (Nat.le_refl _) _)) (Far.none _ _ _) (Nat.le_refl _)).grow hgw (fun j e=>.inl (by have:=hrw _ e; omega)) (Nat.le_refl _))
        simp only [slCs,hdV] at hrun
        have HRUN:=hid hrun.out
        clear HTF HM2 hrun hm' hgw hrw
        go_wp2_with (at_builtin; refine Lib.wpList_append_run _ rfl _ _ _ _ rfl _ _ rfl rfl _ _ HRUN.out ?_)
        go_roundw
        case rel=>exact ⟨j + 1,by go_num,by omega,HM3,HMA3,HBX3,HRR3⟩
        case measure=>simp [intOf] <;> omega
      ·have hji:¬ (j:Int) < (nr:Int):=by omega
       obtain ⟨H,hrow,hHl⟩:=HM.out.ex
       obtain ⟨va,vc,hv,_⟩:=ownsRow_sliceN hrow
       have HLN:Hid (((RR.take j).filter fun g=>!g.any (apprB EL ch A)).length=(missingS l m ch A).length):=hid (by rw [HMS.out,List.take_of_length_le (by have:=HNR.out; omega)])
       rw [HLN.out] at hv
       have HB9:=hid (HBE.out.trans (HM.out.be.mono HBE.out.size))
       subst hv
       clear hrow hHl HM HMA HBX HRR
       go_wp2_with fail
       go_ret2
       exact ⟨HB9.out,va,_,vc,0,rfl,.inl ⟨HOK.out,rfl,rfl⟩⟩
  ·exact absurd ⟨HOK.out.1,HOK.out.2.1⟩ hr1
 ·have HOK:=hid h1
  clear h1
  go_wp2_with fail
  go_ret2
  exact ⟨HB1.out,none,0,0,ek,rfl,.inr ⟨HOK.out,h2⟩⟩
end Go.Proofs.YtdedfkljaeloiaaGreatDoor
