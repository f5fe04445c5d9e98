/- Joined texts: PkSz, PkTs, PkAs, PkM, PkJg, PkHl, PkRg, PkJf, PkJi. -/
import Derived.Test.YtijkieiihpiljaaGreatP2
import Derived.Test.YtijkieiihpiljaaGreatK5
import Derived.Test.YtijkieiihpiljaaGreatK6
import Derived.Test.YtijkieiihpiljaaGreatP1
import Derived.Test.YtijkieiihpiljaaGreatK2
import Derived.Test.YtijkieiihpiljaaGreatP3
import Derived.Test.YtijkieiihpiljaaGreatRows
import Derived.Deep.RegionHeldLaw
import Derived.RangeFuncNested
import Derived.RangeFuncBound
import Derived.RangeFuncCalls
import Derived.RangeFuncLeaves
import Derived.OwnWalkIn
import Derived.Lib.OthersKept
import Derived.Shelf.RegionOpen
/- codec.Size (the lines of WriteInt that WWriteInt leaves out). -/
set_option maxRecDepth 100000
set_option maxHeartbeats 16000000
open Go.Lib (hid)
namespace Go.Proofs.YtijkieiihpiljaaGreat
open Go.RowKit Go.Shelf
section
attribute [local go_sem] Oper.semAt_some
def sizeI (n:Int):Int:=if Cw.inR n then ((Cw.enc n.toNat).length:Int) else 0
structure SInv (w:World) (pre:List Int) (W:World):Prop where
 below:Below w.heap.size w W
 cnt:W.heap[w.heap.size]? = some (.cells #[.int .i64 pre.length] 3 (0,0))
 box:∃ v,W.heap[w.heap.size + 1]? = some (.cells #[v] 3 (0,0))
theorem SInv.putObj {w W:World} {pre:List Int} (h:SInv w pre W) {l:Nat} (o':Obj) (hl:w.heap.size + 2<=l):SInv w pre (W.putObj l o'):=by
 refine ⟨h.below.trans ⟨rfl,rfl,rfl,by simp,fun k hk=>World.putObj_heap_other (by omega)⟩,(World.putObj_heap_other (by omega)).trans h.cnt,?_⟩
 obtain ⟨v,hv⟩:=h.box
 exact ⟨v,(World.putObj_heap_other (by omega)).trans hv⟩
theorem SInv.alloc {w W:World} {pre:List Int} (h:SInv w pre W) (o:Obj):SInv w pre (W.alloc o):=by
 refine ⟨h.below.alloc h.below.size o,(Below.heap_alloc W o _ (Array.getElem?_eq_some_iff.1 h.cnt).1).trans h.cnt,?_⟩
 obtain ⟨v,hv⟩:=h.box
 exact ⟨v,(Below.heap_alloc W o _ (Array.getElem?_eq_some_iff.1 hv).1).trans hv⟩
theorem SInv.set {w W:World} {pre:List Int} (h:SInv w pre W) (v:Value):SInv w pre (W.setCell ⟨w.heap.size + 1,0,none⟩ v):=by
 refine ⟨h.below.setCell (p:=⟨w.heap.size + 1,0,none⟩) (by simp) v,(Below.heap_setCell W _ v _ (by simp)).trans h.cnt,?_⟩
 obtain ⟨v0,hv0⟩:=h.box
 exact ⟨v,by simp [World.setCell,Array.getElem?_modify,hv0]⟩
theorem size_any (n:Int) (w:World) :
  Calls Tryz.prog 120 #[.int .i64 n] w fun e w'=>e = .returned (.int .i64 (sizeI n))/\Below w.heap.size w w':=by
 by_cases h:Cw.inR n=true
 ·have hp:sizeI n=((Cw.enc n.toNat).length:Int):=if_pos h
  obtain ⟨h0,h1⟩:=(Cw.inR_iff n).1 h
  have HS:Hid (sizeI n=((encZ 10 n).length:Int)):=hid (by rw [hp,encZ_length 10 n h0]; rfl)
  clear hp
  have HI:Hid (∀ w:World,Calls Tryz.prog 107 #[.int .i64 n] w fun e w'=>e = .returned (.bool true)/\w=w'):=
   hid (fun w=>by have:=inRange_any n w; rwa [h] at this)
  clear h
  refine (callsIn_wide (n:=5)).1 ?_
  refine callsIn_of_wp_marks Tryz.func120 rfl trivial ?_ rfl
  simp only [Tryz.ntmps120,List.size_toArray,List.length_cons,List.length_nil,Nat.reduceAdd,Nat.reduceSub,Array.replicate_succ,Array.replicate_zero,List.push_toArray,List.append_toArray,List.nil_append,List.cons_append]
  gi_wp2_with (first | (refine ⟨trivial,?_⟩; gi_at_call 107; refine (callsIn_wide.2 (HI.out _)).mono ?_; rintro e w' ⟨rfl,rfl⟩) | (refine ⟨trivial,?_⟩; gi_at_call 135; refine (callsIn_wide.2 (digits_any _ _)).mono ?_; rintro e w' ⟨rfl,rfl⟩))
  have hI0:SInv w [] ((w.alloc (.cells #[.int .i64 0] 3)).alloc (.cells #[.int .i64 n] 3)):=by
   refine ⟨((Below.refl _ w).alloc (Nat.le_refl _) _).alloc (by simp) _,?_,⟨.int .i64 n,?_⟩⟩
   ·exact (Below.heap_alloc _ _ _ (by simp)).trans (World.alloc_heap_new w _)
   ·have:=World.alloc_heap_new (w.alloc (.cells #[.int .i64 0] 3)) (.cells #[.int .i64 n] 3)
    rwa [World.size_alloc] at this
  have hbx:NBox (w.heap.size + 1) n ((w.alloc (.cells #[.int .i64 0] 3)).alloc (.cells #[.int .i64 n] 3)):=by
   have:=World.alloc_heap_new (w.alloc (.cells #[.int .i64 0] 3)) (.cells #[.int .i64 n] 3)
   rwa [World.size_alloc] at this
  have hsz:((w.alloc (.cells #[.int .i64 0] 3)).alloc (.cells #[.int .i64 n] 3)).heap.size=w.heap.size + 2:=by simp
  refine wpIn_rangeFunc_all (α:=Int) (gf:=151) (lb:=#[.pointer (some ⟨w.heap.size + 1,0,none⟩)]) (enc:=fun x=>.int .u8 x) (ok:=okD) (bn:=w.heap.size + 1) (bo:=.cells #[.int .i64 n] 3 (0,0)) (xs:=encZ 10 n)
   rfl (by omega) rfl trivial (enters_of Tryz.func151 (by kernel_rfl) rfl)
   (fun l J hJs hY W hb hJ=>digits1_in Fence.wide 4 trivial rfl (by omega) l (w.heap.size + 1) J hJs hY n 9 (by omega) h0 (by omega) (EncFits.ten (by omega)) W hb hJ)
   rfl (by rw [hsz]; omega) hbx (SInv w)
   (fun s W l o o' hl ho hc hi=>hi.putObj o' (by rw [hsz] at hl; omega))
   (fun s W o hi=>hi.alloc o) (fun s W v hi=>hi.set v) hI0
   (fun x=>{ tmps:=#[.int .i64 n,undef,.int .i64 0,.pointer (some ⟨w.heap.size,0,none⟩),.int .i64 n,.bool true,.bool false,.int .i64 n,.func (.func 151) #[] #[.pointer (some ⟨w.heap.size + 1,0,none⟩)],.int .u8 x,undef,undef,undef],defers:=[] }) ?assign ?body ?done
  case assign=>
   intro l x W K hK
   gi_wp2
   simpa using hK
  case body=>
   rintro l pre x W hl hok hi
   have hcnt:W.cell? ⟨w.heap.size,0,none⟩=some (.int .i64 pre.length):=by rw [Lib.cell_of_heap hi.cnt]; rfl
   have hfz:W.frozen? ⟨w.heap.size,0,none⟩=false:=Lib.frozen_of_heap hi.cnt 0
   have hpl:pre.length < 10:=hok.2.2
   gi_wp2
   obtain ⟨v,hv⟩:=hi.box
   refine ⟨KeepsOthers.setCell _ _ _,Below.heap_setCell W _ _ _ (by simp),?_,?_,v,(Below.heap_setCell W _ _ _ (by simp)).trans hv⟩
   ·exact hi.below.setCell (p:=⟨w.heap.size,0,none⟩) (by simp) _
   ·simp [World.setCell,Array.getElem?_modify,hi.cnt]
  case done=>
   rintro D W hD hi hK
   rw [hsz] at hD
   have hcnt:W.cell? ⟨w.heap.size,0,none⟩=some (.int .i64 (encZ 10 n).length):=by rw [Lib.cell_of_heap hi.cnt]; rfl
   have HI2:=hid hi
   clear hi
   gi_wp2
   refine ⟨by simp,.inl ⟨_,_,rfl,run_takeDeferred hK,?_⟩⟩
   refine ⟨_,results_tmp rfl _ _ _,?_,(HI2.out.putObj (.deferred none) hD).below⟩
   rw [HS.out]; rfl
 ·have h':Cw.inR n=false:=by simpa using h
  have hp:sizeI n=0:=if_neg h
  have HI:Hid (∀ w:World,Calls Tryz.prog 107 #[.int .i64 n] w fun e w'=>e = .returned (.bool false)/\w=w'):=
   hid (fun w=>by have:=inRange_any n w; rwa [h'] at this)
  rw [hp]
  clear h h' hp
  go_enter Tryz.func120,Tryz.ntmps120
  go_wp2_with (go_at_call 107; refine (HI.out _).mono ?_; rintro e w' ⟨rfl,rfl⟩)
  go_ret
  exact ⟨rfl,Below.refl _ _⟩
end
set_option linter.unusedVariables false
theorem textSize_any (n:Nat) (hn:(n:Int)<=1099511627776) (w:World):Calls Tryz.prog 76 #[.int .i64 (n:Int)] w fun e w'=>e = .returned (.int .i64 (((Cw.enc n).length + n:Nat):Int))/\Below w.heap.size w w':=by
 have HS:=hid (fun W=>size_any (n:Int) W)
 have hz:sizeI (n:Int)=((Cw.enc n).length:Int):=by unfold sizeI; rw [if_pos ((Cw.inR_iff _).2 ⟨by omega,hn⟩)]; simp
 have hl:=enc_length n
 simp only [hz] at HS
 obtain ⟨k,hk⟩:∃ k,k=(Cw.enc n).length:=⟨_,rfl⟩
 rw [<-hk] at HS hl ⊢
 obtain ⟨m,hm⟩:∃ m,m=k + n:=⟨_,rfl⟩
 have hwr:IntKind.i64.wrap ((k:Int) + (n:Int))=(m:Int):=by rw [wrap_i64 (by omega) (by omega)]; omega
 rw [<-hm]
 clear hz hk hm
 go_enter Tryz.func76,Tryz.ntmps76
 go_wp2_with fail
 (with_reducible refine (HS.out _).mono ?_)
 rintro e u ⟨rfl,hb⟩
 have HB:=hid hb
 clear hb HS
 go_wp2_with fail
 go_ret
 exact ⟨rfl,HB.out⟩
theorem asmNum_any {w0 u0:World} {b:Nat} {T:List UInt8} {w:World} (n:Nat) (hn:(n:Int)<=1099511627776) (h:BW w0 u0 b T w) (hT:(T.length:Int)<=70368744177664):Calls Tryz.prog 66 #[.int .i64 (n:Int),.pointer (some ⟨b,0,none⟩)] w fun e w'=>e = .returned (.tuple #[])/\Hid (BW w0 u0 b (T ++ Cw.enc n) w'):=by
 have HP:=hid (putInt_in (n:Int) (by omega) hn w)
 simp only [Int.toNat_natCast] at HP
 have hl:=enc_length n
 have HB:=hid h
 generalize Cw.enc n=E at HP hl ⊢
 have HTL:=hid hT
 have HEL:=hid hl
 clear h
 go_enter Tryz.func66,Tryz.ntmps66
 go_wp2_with fail
 (with_reducible refine (HP.out).mono ?_)
 rintro e u ⟨rfl,hb⟩
 have HB2:=hid (HB.out.below hb)
 have HW:=hid (writeStr_bw HB2.out E (by have:=HTL.out; have:=HEL.out; omega))
 clear hb HP HB HB2
 go_wp2_with fail
 (with_reducible refine (HW.out).mono ?_)
 rintro e u2 ⟨rfl,HW3⟩
 go_wp2_with fail
 go_end0
 exact ⟨rfl,HW3⟩
theorem asmText_any {w0 u0:World} {b fb:Nat} {T:List UInt8} {w:World} (S:List UInt8) (hn:(S.length:Int)<=1099511627776) (h:BW w0 u0 b T w) (hT:(T.length:Int)<=70368744177664) (hf:w.cell? ⟨fb,0,none⟩=some (.func (.func 66) #[] #[.pointer (some ⟨b,0,none⟩)])):Calls Tryz.prog 69 #[.string ⟨S.toArray⟩,.pointer (some ⟨fb,0,none⟩),.pointer (some ⟨b,0,none⟩)] w fun e w'=>e = .returned (.tuple #[])/\Hid (BW w0 u0 b (T ++ (Cw.enc S.length ++ S)) w'):=by
 have HN:=hid (asmNum_any S.length hn h hT)
 have hss:=ba_len S
 have hl:=enc_length S.length
 have HWS:Hid (∀ W,BW w0 u0 b (T ++ Cw.enc S.length) W->Calls Tryz.prog 68 #[.pointer (some ⟨b,0,none⟩),.string ⟨S.toArray⟩] W fun e w'=>e = .returned (.tuple #[.int .i64 S.length,.nilIface])/\Hid (BW w0 u0 b (T ++ Cw.enc S.length ++ S) w')):=hid (fun W hW=>writeStr_bw hW S (by rw [List.length_append]; omega))
 rw [<-List.append_assoc]
 generalize T ++ Cw.enc S.length=T2 at HN HWS ⊢
 generalize T2 ++ S=T3 at HWS ⊢
 obtain ⟨n,hnn⟩:∃ n,n=S.length:=⟨_,rfl⟩
 rw [<-hnn] at HN HWS hss
 clear h hl hnn
 go_enter Tryz.func69,Tryz.ntmps69
 go_wp2_with fail
 (with_reducible refine (HN.out).mono ?_)
 rintro e u ⟨rfl,HW⟩
 have HW2:=hid (HWS.out _ HW.out)
 clear HN HWS hf
 go_wp2_with fail
 (with_reducible refine (HW2.out).mono ?_)
 rintro e u2 ⟨rfl,HW3⟩
 go_wp2_with fail
 go_end0
 exact ⟨rfl,HW3⟩
open Go.RowKit
theorem encO_len {o:Dop} (h:fitO o) (hd:o.data.length<=65536):(encO o).length<=21 * sizeO o:=by
 have h1:=enc_length o.len
 have h2:=enc_length o.off
 have h3:=enc_length o.data.length
 have h4:=fit_size h
 unfold encO
 rw [List.length_append]
 by_cases e:0 < o.len
 ·rw [if_pos ((fit_copy h).2 e)]; omega
 ·rw [if_neg (fun c=>e ((fit_copy h).1 c))]
  have:(putT o.data).1=Cw.enc o.data.length ++ o.data:=by unfold putT; rw [if_pos hd]
  rw [this,List.length_append]
  have h5:sizeO o=o.data.length:=by unfold sizeO; rw [if_neg e]
  omega
theorem encs_len:∀ {l:List Dop},(∀ o ∈ l,fitO o/\o.data.length<=65536)->(l.flatMap encO).length<=21 * (l.map sizeO).sum
 | [],_=>by simp
 | o :: l,h=>by
  have h1:=encO_len (h o (by simp)).1 (h o (by simp)).2
  have h2:=encs_len (l:=l) (fun x hx=>h x (by simp [hx]))
  rw [List.flatMap_cons,List.length_append,List.map_cons,List.sum_cons]
  omega
theorem sum_mem {o:Dop}:∀ {l:List Dop},o ∈ l->sizeO o<=(l.map sizeO).sum
 | [],h=>by simp at h
 | x :: l,h=>by
  rw [List.map_cons,List.sum_cons]
  rcases List.mem_cons.1 h with rfl | h
  ·omega
  ·have:=sum_mem h; omega
theorem diff_size {a b:List UInt8}:∀ o ∈ diffS a b,sizeO o<=b.length:=fun o ho=>by
 have h:=(diff_good a b).sum
 have h2:=sum_mem ho
 omega
theorem fit_data {o:Dop} (h:fitO o):o.data.length<=sizeO o:=by
 unfold sizeO
 rcases h with ⟨h1,h2⟩ | ⟨h1,h2,h3⟩
 ·rw [h2]; simp
 ·rw [if_neg (by omega)]; omega
theorem diff_enc {a b:List UInt8} (ha:a.length<=65536) (hb:b.length<=3000):(encL (diffS a b)).2=0/\(encL (diffS a b)).1.length<=65536/\decD (encL (diffS a b)).1=(diffS a b,0)/\(diffS a b).length<=3000:=by
 have hg:=diff_good a b
 have hc:=diff_check (a:=a) (b:=b) (n:=65536) ha (by omega) (by omega)
 obtain ⟨h1,h2⟩:=decD_enc hc
 have h3:=encs_len (l:=diffS a b) (fun o ho=>⟨hg.fit o ho,by have:=fit_data (hg.fit o ho); have:=diff_size o ho; omega⟩)
 rw [hg.sum] at h3
 have h5:(diffS a b).length<=((diffS a b).map sizeO).sum:=by
  have:∀ l:List Dop,(∀ o ∈ l,fitO o)->l.length<=(l.map sizeO).sum:=by
   intro l
   induction l with
   | nil=>intro _; simp
   | cons o l ih=>
    intro h
    have g1:=ih (fun x hx=>h x (by simp [hx]))
    have g2:=fit_size (h o (by simp))
    rw [List.length_cons,List.map_cons,List.sum_cons]
    omega
  exact this _ hg.fit
 rw [hg.sum] at h5
 have h4:=enc_length (diffS a b).length
 refine ⟨by rw [h1],?_,h2,by omega⟩
 rw [h1]
 simp only [List.length_append]
 omega
abbrev Dg:=Int × Int
def pickR (tx:Dg->Nat):List Dg->Nat->Option Dg->Option Dg
 | [],_,r=>r
 | c :: cs,m,r=>if tx c < m then pickR tx cs (tx c) (some c) else pickR tx cs m r
def pickP (tx:Dg->Nat):List Dg->Option (Dg × Nat)->Option (Dg × Nat)
 | [],r=>r
 | c :: cs,none=>pickP tx cs (some (c,tx c))
 | c :: cs,some (b,k)=>if tx c < k then pickP tx cs (some (c,tx c)) else pickP tx cs (some (b,k))
def pickF (n:Nat):Option (Dg × Nat)->Option Dg
 | none=>none
 | some (b,k)=>if n<=k + 16 then none else some b
theorem pick_eq {tx:Dg->Nat} {n:Nat}:∀ (cs:List Dg) {m:Nat} {r:Option Dg} {p:Option (Dg × Nat)},
  (p=none/\m=n - 16/\r=none)\/(∃ b k,p=some (b,k)/\((k + 16 < n/\m=k/\r=some b)\/(n<=k + 16/\m=n - 16/\r=none)))->pickR tx cs m r=pickF n (pickP tx cs p)
 | [],m,r,p,h=>by
  rcases h with ⟨rfl,_,rfl⟩ | ⟨b,k,rfl,⟨h1,_,rfl⟩ | ⟨h1,_,rfl⟩⟩
  ·rfl
  ·simp only [pickR,pickP,pickF]; rw [if_neg (by omega)]
  ·simp only [pickR,pickP,pickF]; rw [if_pos h1]
 | c :: cs,m,r,p,h=>by
  rcases h with ⟨rfl,h1,rfl⟩ | ⟨b,k,rfl,⟨h1,h2,rfl⟩ | ⟨h1,h2,rfl⟩⟩
  ·rw [pickR,pickP]
   by_cases e:tx c < m
   ·rw [if_pos e]
    exact pick_eq cs (.inr ⟨c,_,rfl,.inl ⟨by omega,rfl,rfl⟩⟩)
   ·rw [if_neg e]
    exact pick_eq cs (.inr ⟨c,_,rfl,.inr ⟨by omega,h1,rfl⟩⟩)
  ·rw [pickR,pickP]
   subst h2
   by_cases e:tx c < m
   ·rw [if_pos e,if_pos e]
    exact pick_eq cs (.inr ⟨c,_,rfl,.inl ⟨by omega,rfl,rfl⟩⟩)
   ·rw [if_neg e,if_neg e]
    exact pick_eq cs (.inr ⟨b,_,rfl,.inl ⟨h1,rfl,rfl⟩⟩)
  ·rw [pickR,pickP]
   by_cases e:tx c < m
   ·rw [if_pos e,if_pos (by omega)]
    exact pick_eq cs (.inr ⟨c,_,rfl,.inl ⟨by omega,rfl,rfl⟩⟩)
   ·rw [if_neg e]
    by_cases e2:tx c < k
    ·rw [if_pos e2]
     exact pick_eq cs (.inr ⟨c,_,rfl,.inr ⟨by omega,h2,rfl⟩⟩)
    ·rw [if_neg e2]
     exact pick_eq cs (.inr ⟨b,_,rfl,.inr ⟨h1,h2,rfl⟩⟩)
theorem pickP_snoc {tx:Dg->Nat} (c:Dg):∀ (cs:List Dg) (r:Option (Dg × Nat)),pickP tx (cs ++ [c]) r=match pickP tx cs r with
  | none=>some (c,tx c)
  | some (b,k)=>if tx c < k then some (c,tx c) else some (b,k)
 | [],none=>rfl
 | [],some (b,k)=>by simp [pickP]
 | d :: cs,none=>by rw [List.cons_append,pickP,pickP]; exact pickP_snoc c cs _
 | d :: cs,some (b,k)=>by
  rw [List.cons_append,pickP,pickP]
  by_cases e:tx d < k
  ·rw [if_pos e,if_pos e]; exact pickP_snoc c cs _
  ·rw [if_neg e,if_neg e]; exact pickP_snoc c cs _
theorem pickP_text {tx:Dg->Nat}:∀ (cs:List Dg) (r:Option (Dg × Nat)),(∀ b k,r=some (b,k)->k=tx b)->∀ b k,pickP tx cs r=some (b,k)->k=tx b/\(b ∈ cs\/r=some (b,k))
 | [],r,h,b,k,e=>⟨h b k e,.inr e⟩
 | c :: cs,none,h,b,k,e=>by
  rw [pickP] at e
  obtain ⟨h1,h2⟩:=pickP_text cs _ (fun b k h=>by cases h; rfl) b k e
  refine ⟨h1,.inl ?_⟩
  rcases h2 with h2 | h2
  ·exact List.mem_cons_of_mem _ h2
  ·cases h2; exact List.mem_cons_self
 | c :: cs,some (b0,k0),h,b,k,e=>by
  rw [pickP] at e
  by_cases e2:tx c < k0
  ·rw [if_pos e2] at e
   obtain ⟨h1,h2⟩:=pickP_text cs _ (fun b k h=>by cases h; rfl) b k e
   refine ⟨h1,.inl ?_⟩
   rcases h2 with h2 | h2
   ·exact List.mem_cons_of_mem _ h2
   ·cases h2; exact List.mem_cons_self
  ·rw [if_neg e2] at e
   obtain ⟨h1,h2⟩:=pickP_text cs _ h b k e
   refine ⟨h1,?_⟩
   rcases h2 with h2 | h2
   ·exact .inl (List.mem_cons_of_mem _ h2)
   ·exact .inr h2
def datD (xs:List Itm) (d:Dg):List UInt8:=(datI xs d).1
def txS (xs:List Itm) (d c:Dg):List UInt8:=putX (encL (diffS (datD xs c) (datD xs d))).1
def chosen (xs:List Itm) (d:Dg) (cs:List Dg):Option Dg:=pickR (fun c=>(txS xs d c).length) cs ((putX (datD xs d)).length - 16) none
theorem chosen_prog (xs:List Itm) (d:Dg) (cs:List Dg):chosen xs d cs=pickF (putX (datD xs d)).length (pickP (fun c=>(txS xs d c).length) cs none):=pick_eq cs (.inl ⟨rfl,rfl,rfl⟩)
def entB (xs:List Itm) (d:Dg) (o:Option Dg):List UInt8:=
 beD d ++ (match o with
  | none=>Cw.enc 0 ++ putX (datD xs d)
  | some c=>Cw.enc 1 ++ (beD c ++ txS xs d c))
def entI (xs:List Itm) (l base:List Dg) (i:Nat):List UInt8:=entB xs (l.getD i (0,0)) (chosen xs (l.getD i (0,0)) (base ++ l.take i))
def packB (xs:List Itm) (l base:List Dg):List UInt8:=Cw.enc l.length ++ (List.range l.length).flatMap (entI xs l base)
def pkE (xs:List Itm):List Dg->List Dg->Int
 | [],_=>0
 | d :: r,seen=>if hasS xs d=false then 8 else if d ∈ seen then 7 else pkE xs r (seen ++ [d])
def bsE (xs:List Itm) (l:List Dg):Int:=if l.all (hasS xs)=true then 0 else 8
def packE (xs:List Itm) (l base:List Dg):Int:=if 1000 < l.length then 4 else if pkE xs l [] ≠ 0 then pkE xs l [] else bsE xs base
def packS (xs:List Itm) (l base:List Dg):List UInt8 × Int:=if packE xs l base ≠ 0 then ([],packE xs l base) else (sealS (packB xs l base),0)
structure Chc where
 sm:Bool
 b:Int × Int
 tx:List UInt8
 sz:Nat
def chCs (c:Chc):List Value:=[.bool c.sm,.int .u64 c.b.1,.int .u64 c.b.2,.string ⟨c.tx.toArray⟩,.int .i64 (c.sz:Int)]
theorem layCh:Lay chCs 5:=⟨by decide,fun _=>rfl,fun a v hv=>by
 simp [chCs] at hv
 rcases hv with rfl | rfl | rfl | rfl | rfl <;> rfl⟩
theorem ch_cells {B:Nat} {W:World} {a:Option Addr} {l:List Chc} (h:GIn chCs 5 B W a l) {k:Nat} (hk:k < l.length):∃ b off,a=some ⟨b,off,none⟩/\b < B/\W.cell? ⟨b,off + k * 5,none⟩=some (.bool l[k].sm)/\W.cell? ⟨b,off + k * 5 + 1,none⟩=some (.int .u64 l[k].b.1)/\W.cell? ⟨b,off + k * 5 + 2,none⟩=some (.int .u64 l[k].b.2)/\W.cell? ⟨b,off + k * 5 + 3,none⟩=some (.string ⟨l[k].tx.toArray⟩)/\W.cell? ⟨b,off + k * 5 + 4,none⟩=some (.int .i64 (l[k].sz:Int)):=by
 obtain ⟨b,off,h1,h2,h3⟩:=h k hk
 exact ⟨b,off,h1,h2,h3 0 _ rfl,h3 1 _ rfl,h3 2 _ rfl,h3 3 _ rfl,h3 4 _ rfl⟩
def entC (xs:List Itm) (d:Int × Int) (c:Chc):List UInt8:=beD d ++ (if c.sm=true then Cw.enc 1 ++ (beD c.b ++ putX c.tx) else Cw.enc 0 ++ putX (datD xs d))
def bodyC (xs:List Itm) (l:List (Int × Int)) (ch:List Chc):List UInt8:=Cw.enc l.length ++ (l.zip ch).flatMap fun p=>entC xs p.1 p.2
structure ChOk (c:Chc):Prop where
 b:OkD c.b
 t:c.tx.length<=1000000
theorem entC_len {xs:List Itm} {d:Int × Int} {c:Chc} (hc:c.tx.length<=1000000) (hd:(datD xs d).length<=1000000):(entC xs d c).length<=1000100:=by
 have h1:=enc_length 1
 have h0:=enc_length 0
 have h2:=enc_length c.tx.length
 have h3:=enc_length (datD xs d).length
 have hb:∀ x,(beD x).length=16:=fun x=>by unfold beD; rw [List.length_append,be_length,be_length]
 unfold entC putX
 split <;> simp only [List.length_append,hb] <;> omega
theorem flat_len {α:Type} {f:α->List UInt8} {m:Nat}:∀ (l:List α),(∀ x ∈ l,(f x).length<=m)->(l.flatMap f).length<=l.length * m
 | [],_=>by simp
 | x :: l,h=>by
  have h1:=h x (by simp)
  have h2:=flat_len l (fun y hy=>h y (by simp [hy]))
  rw [List.flatMap_cons,List.length_append,List.length_cons,Nat.add_mul]
  omega
theorem zip_take_snoc {α β:Type} {l:List α} {m:List β} {k:Nat} (h1:k < l.length) (h2:k < m.length):(l.zip m).take (k + 1)=(l.zip m).take k ++ [(l[k],m[k])]:=by
 rw [List.take_succ_eq_append_getElem (by rw [List.length_zip]; omega),List.getElem_zip]
open Go
section
variable {P:Program} {ops:Array Oper} {Q:Exit->Act->World->Prop} {md:Region.Mode} {S:World->Prop}
def ClL (md:Region.Mode) (ops:Array Oper) (ls:Array Bool):Prop:=∀ j o,ops[j]? = some o->ls.getD j true=true->∀ e ∈ o.after,Region.binds md e=true->ls.getD e.on true=true
def waitsL (md:Region.Mode) (ops:Array Oper):Nat->Nat->Nat->Bool
 | 0,_,_=>false
 | f + 1,j,i=>match ops[j]? with
  | none=>false
  | some o=>o.after.any fun e=>Region.binds md e && (e.on == i || waitsL md ops f e.on i)
theorem getD_listed {ls:Array Bool} {j:Nat} (h:j < ls.size):ls.getD j true=ls.getD j false:=by simp [h]
theorem ClL.waits {ls:Array Bool} (h:ClL md ops ls) (i:Nat):∀ (f j:Nat),waitsL md ops f j i=true->(∀ o,ops[j]? = some o->∀ e ∈ o.after,Region.binds md e=true->ls.getD e.on true=true)->ls.getD i true=true
 | 0,j,hw,_=>by simp [waitsL] at hw
 | f + 1,j,hw,ha=>by
  rw [waitsL] at hw
  cases ho:ops[j]? with
  | none=>rw [ho] at hw; simp at hw
  | some o=>
   rw [ho] at hw
   simp only at hw
   obtain ⟨e,he,hb⟩:∃ e ∈ o.after,(Region.binds md e && (e.on == i || waitsL md ops f e.on i))=true:=by
    rw [Array.any_eq_true] at hw
    obtain ⟨k,hk,hb⟩:=hw
    exact ⟨_,Array.getElem_mem hk,hb⟩
   simp only [Bool.and_eq_true,Bool.or_eq_true,beq_iff_eq] at hb
   have h1:=ha o ho e he hb.1
   rcases hb.2 with rfl | h2
   ·exact h1
   ·exact h.waits i f e.on h2 (fun o' ho'=>h e.on o' ho' h1)
theorem ready_all {ls:Array Bool} {j:Nat} (hj:j ∈ Region.ready md ops ls):ls.getD j true=false/\∀ o,ops[j]? = some o->∀ e ∈ o.after,Region.binds md e=true->ls.getD e.on true=true:=by
 obtain ⟨h1,o,ho,hall⟩:=mem_ready.1 hj
 refine ⟨h1,fun o' ho' e he hb=>?_⟩
 rw [ho] at ho'
 cases ho'
 have:=hall e he hb
 rcases Nat.lt_or_ge e.on ls.size with h | h
 ·rw [getD_listed h]; simpa using this
 ·simp [h]
theorem ClL.set {ls:Array Bool} (h:ClL md ops ls) {j:Nat} (hj:j ∈ Region.ready md ops ls):ClL md ops (ls.setIfInBounds j true):=by
 intro k o ho hk e he hb
 have key:∀ x,ls.getD x true=true->(ls.setIfInBounds j true).getD x true=true:=fun x hx=>by
  by_cases ex:j=x
  ·subst ex
   rcases Nat.lt_or_ge j ls.size with h' | h'
   ·simp [h']
   ·simp [h']
  ·rw [getD_set_ne true ex]; exact hx
 by_cases ek:j=k
 ·subst ek; exact key _ ((ready_all hj).2 o ho e he hb)
 ·rw [getD_set_ne true ek] at hk; exact key _ (h k o ho hk e he hb)
def liveL (ts:List Nat) (ls:Array Bool):Bool:=ts.all fun t=>!(ls.getD t true)
theorem liveL_iff {ts:List Nat} {ls:Array Bool}:liveL ts ls=true ↔ ∀ t ∈ ts,ls.getD t true=false:=by simp [liveL]
def anyG (P:Program) (md:Region.Mode) (ops:Array Oper) (Q:Exit->Act->World->Prop) (S:World->Prop) (ts:List Nat):Nat->Array Bool->Act->World->Prop
 | 0,ls,a,w=>Region.ready md ops ls=[]/\Q .normal a w
 | f + 1,ls,a,w=>(Region.ready md ops ls=[]->Q .normal a w)/\∀ i ∈ Region.ready md ops ls,wpOp P ops Q i (fun a' w'=>(liveL ts (ls.setIfInBounds i true)=true->S w')/\anyG P md ops Q S ts f (ls.setIfInBounds i true) a' w') a w
def anyL (P:Program) (md:Region.Mode) (ops:Array Oper) (Q:Exit->Act->World->Prop) (S:World->Prop) (ts:List Nat) (f:Nat) (ls:Array Bool) (a:Act) (w:World):Prop:=ClL md ops ls->anyG P md ops Q S ts f ls a w
theorem any_of_G {ts:List Nat}:∀ (f:Nat) (ls:Array Bool) (a:Act) (w:World),anyG P md ops Q S ts f ls a w->wpAny P md ops Q f ls a w
 | 0,_,_,_,h=>h
 | f + 1,_,_,_,h=>⟨h.1,fun i hi=>wpOp_mono (fun a' w' h'=>any_of_G f _ a' w' h'.2) (h.2 i hi)⟩
theorem anyG_first {ts:List Nat} {S':World->Prop} {i:Nat} {oi:Oper} {v:Value} (hi:ops[i]? = some oi) (hsel:∀ (j:Nat) (o:Oper) cs b,ops[j]? = some o->o.op ≠ .select cs b) (hQ:∀ c a w,Q (.panic c) (a.put oi.dst v) w->Q (.panic c) a w)
  (hst:∀ (ls:Array Bool) (j:Nat) (w:World),ClL md ops ls->i ∈ Region.ready md ops ls->j ∈ Region.ready md ops ls->j ≠ i->(liveL ts ((ls.setIfInBounds j true).setIfInBounds i true)=true->S w)->S' w/\(liveL ts (ls.setIfInBounds j true)=true->S w)) :
  ∀ (f:Nat) (ls:Array Bool) (a:Act) (w:World),ClL md ops ls->(∀ j oj,ops[j]? = some oj->j ≠ i->ls.getD j true=false->(∀ e ∈ oj.after,Region.binds md e=true->e.on ≠ i)->oi.apart ops oj=true)->
   i ∈ Region.ready md ops ls->YieldsIf P ops S' oi v a->S' w->(liveL ts (ls.setIfInBounds i true)=true->S w)->anyG P md ops Q S ts f (ls.setIfInBounds i true) (a.put oi.dst v) w->anyG P md ops Q S ts (f + 1) ls a w
 | 0,ls,a,w,hC,_,hr,hy,hS,hS2,H=>by
  refine ⟨fun h=>(by rw [h] at hr; cases hr),fun j hj=>?_⟩
  by_cases e:j=i
  ·subst e; exact hy.wpOp hi hS ⟨hS2,H⟩
  ·have:=ready_mono hj e
   rw [H.1] at this
   cases this
 | f + 1,ls,a,w,hC,hfree,hr,hy,hS,hS2,H=>by
  refine ⟨fun h=>(by rw [h] at hr; cases hr),fun j hj=>?_⟩
  by_cases e:j=i
  ·subst e; exact hy.wpOp hi hS ⟨hS2,H⟩
  have h1:=H.2 j (ready_mono hj e)
  obtain ⟨hjun,oj,hoj,hall⟩:=mem_ready.1 hj
  have hnot:∀ e ∈ oj.after,Region.binds md e=true->e.on ≠ i:=fun e he hb heq=>by
   have g1:=(ready_all hj).2 oj hoj e he hb
   rw [heq,(ready_all hr).1] at g1
   cases g1
  have h2:=wpOp_putIf hoj (hfree j oj hoj e hjun hnot) (fun cs b=>hsel i oi cs b hi) (fun cs b=>hsel j oj cs b hoj) hQ hy h1
  refine wpOp_mono (fun a' w' h3=>?_) h2
  have hcm:=Array.setIfInBounds_comm (xs:=ls) true true e
  have h4:=hst ls j w' hC hr hj e (by rw [hcm]; exact h3.2.1)
  refine ⟨h4.2,anyG_first hi hsel hQ hst f (ls.setIfInBounds j true) a' w' (hC.set hj) (fun k ok hk hki hun hno=>?_) (ready_mono hr (Ne.symm e)) h3.1 h4.1 (by rw [hcm]; exact h3.2.1) ?_⟩
  ·refine hfree k ok hk hki ?_ hno
   by_cases hjk:j=k
   ·subst hjk; exact hjun
   ·rw [getD_set_ne true hjk] at hun; exact hun
  ·rw [hcm]
   exact h3.2.2
theorem live_add {ts:List Nat} {ls:Array Bool} {i:Nat} (hi:ts.contains i=false) (h:liveL ts ls=true):liveL ts (ls.setIfInBounds i true)=true:=by
 rw [liveL_iff] at h ⊢
 intro t ht
 have e:i ≠ t:=fun e=>by
  subst e
  have:ts.contains i=true:=by simpa using ht
  rw [hi] at this; cases this
 rw [getD_set_ne true e]; exact h t ht
theorem anyL_take {ts:List Nat} {i:Nat} {oi:Oper} {v:Value} {f:Nat} {ls:Array Bool} {a:Act} {w:World} (hi:ops[i]? = some oi) (hs:Region.noSelect ops=true) (hf:Region.free md ops ls i=true) (hr:(Region.ready md ops ls).contains i=true) (ht:(!ts.contains i && ts.all (fun t=>waitsL md ops ops.size t i))=true)
  (hQ:∀ c a w,Q (.panic c) (a.put oi.dst v) w->Q (.panic c) a w) (hy:YieldsIf P ops S oi v a) (hS:S w) (h:anyL P md ops Q S ts f (ls.setIfInBounds i true) (a.put oi.dst v) w):anyL P md ops Q S ts (f + 1) ls a w:=fun hC=>by
 simp only [Bool.and_eq_true,Bool.not_eq_true',List.all_eq_true] at ht
 refine anyG_first hi (Region.noSelect_spec hs) hQ (fun ls j w hC hri hrj hne hw=>?_) f ls a w hC (Region.free_spec hi hf) (by simpa using hr) hy hS (fun _=>hS) (h (hC.set (by simpa using hr)))
 have hl:liveL ts (ls.setIfInBounds j true)=true:=by
  rw [liveL_iff]
  intro t htt
  have key:∀ t ∈ ts,(∀ o,ops[t]? = some o->∀ e ∈ o.after,Region.binds md e=true->ls.getD e.on true=true)->False:=fun t htt ha=>by
   have h1:=hC.waits i _ t (ht.2 t htt) ha
   rw [(ready_all hri).1] at h1
   cases h1
  have e:j ≠ t:=fun e=>by subst e; exact key j htt (ready_all hrj).2
  rw [getD_set_ne true e]
  cases hx:ls.getD t true with
  | false=>rfl
  | true=>exact (key t htt (fun o ho=>hC t o ho hx)).elim
 have:=hw (live_add ht.1 hl)
 exact ⟨this,fun _=>this⟩
theorem anyL_take0 {ts:List Nat} {i:Nat} {oi:Oper} {v:Value} {f:Nat} {ls:Array Bool} {a:Act} {w:World} (hi:ops[i]? = some oi) (hs:Region.noSelect ops=true) (hf:Region.free md ops ls i=true) (hr:(Region.ready md ops ls).contains i=true) (ht:ts.contains i=false)
  (hQ:∀ c a w,Q (.panic c) (a.put oi.dst v) w->Q (.panic c) a w) (hy:YieldsIf P ops (fun _=>True) oi v a) (hS:S w) (h:anyL P md ops Q S ts f (ls.setIfInBounds i true) (a.put oi.dst v) w):anyL P md ops Q S ts (f + 1) ls a w:=fun hC=>
 anyG_first hi (Region.noSelect_spec hs) hQ (fun ls j w hC hri hrj hne hw=>⟨trivial,fun hl=>hw (live_add ht hl)⟩) f ls a w hC (Region.free_spec hi hf) (by simpa using hr) hy trivial (fun _=>hS) (h (hC.set (by simpa using hr)))
theorem anyL_one {ts:List Nat} {i:Nat} {o:Oper} {f:Nat} {ls:Array Bool} {a:Act} {w:World} (hr:Region.ready md ops ls=[i]) (ho:ops[i]? = some o)
  (h:∀ K':Act->World->Prop,Shut (∀ a w,(liveL ts (ls.setIfInBounds i true)=true->S w)->((liveL ts (ls.setIfInBounds i true)=true->S w)->anyL P md ops Q S ts f (ls.setIfInBounds i true) a w)->K' a w)->if Region.wanted o (yielded ops a.tmps)=true then Oper.wp P o a w K' Q else K' (a.put o.dst undef) w):anyL P md ops Q S ts (f + 1) ls a w:=
 fun hC=>⟨fun h0=>(by rw [hr] at h0; cases h0),fun j hj=>by
  have hj0:=hj
  rw [hr] at hj
  obtain rfl:j=i:=by simpa using hj
  exact wpOp_step ho (fun K' hK=>h K' (fun a w hS hW=>hK a w ⟨hS,hW hS (hC.set hj0)⟩))⟩
theorem anyL_done {ts:List Nat} {ls:Array Bool} {a:Act} {w:World} (hr:Region.ready md ops ls=[]) (h:Q .normal a w):∀ f,anyL P md ops Q S ts f ls a w
 | 0=>fun _=>⟨hr,h⟩
 | _ + 1=>fun _=>⟨fun _=>h,by rw [hr]; simp⟩
theorem getD_repl (n j:Nat):(Array.replicate n false).getD j true=true->n<=j:=fun h=>by
 rcases Nat.lt_or_ge j n with h' | h'
 ·simp [h'] at h
 ·exact h'
theorem wp_region_L (ts:List Nat) {id:Nat} {a:Act} {w:World} (hm:P.follows .mixedOrders=true) (hS:S w.drew) (h:S w.drew->anyL P .any ops Q S ts ops.size (Array.replicate ops.size false) a w.drew):(Code.region id ops true).wp P Q a w:=
 wp_region_any hm (any_of_G _ _ _ _ (h hS (fun j o ho hj=>by
  have h1:=getD_repl _ _ hj
  have h2:=(Array.getElem?_eq_some_iff.1 ho).1
  omega)))
end
open Go Go.RowKit
theorem wpListIn_app {F:Fence} {n:Nat} {P:Program} (w:World) {ops:Array Oper} {rest:List Oper} {o:Oper} {a:Act} {Q:Exit->Act->World->Prop} (hg:o.guard=none) (s x:Operand) (t tn:TypeId)
  (hop:o.op=Op.call { callee:=Callee.builtin Builtin.append,args:=#[s,x],argTypes:=#[t,tn] }) (vs vx:Value) (hs:a.eval s=vs) (hx:a.eval x=vx)
  (v':Value) (w':World) (hr:(Builtin.append_ #[t,tn] o.type #[vs,vx]).run P w = .ok v' w') (h:wpListIn F n P ops Q rest (a.put o.dst v') w'):wpListIn F n P ops Q (o :: rest) a w:=by
 refine wpListIn_plain hg fun K hK'=>?_
 unfold Oper.wpIn
 refine ⟨?_,?_⟩
 ·simp [Oper.about,hop,resolve,Target.leads,Sem.run_pure]
 ·rw [Oper.semAt_plain F _ _ (by rw [hop]; intro c hc'; cases hc')]
  simp [execOp,hop,resolve,invoke,builtin,hs,hx,hr,Result.andThen]
  exact hK' _ _ h
section
variable {F:Fence} {n:Nat} {P:Program}
def noDefer (ops:Array Oper):Bool:=ops.all fun o=>match o.op with | .defer _=>false | _=>true
theorem noDefer_at {ops:Array Oper} (h:noDefer ops=true) {i:Nat} {o:Oper} (ho:ops[i]? = some o):∀ c,o.op ≠ .defer c:=fun c e=>by
 unfold noDefer at h
 rw [Array.all_eq_true] at h
 obtain ⟨hi,rfl⟩:=Array.getElem?_eq_some_iff.1 ho
 have:=h i hi
 rw [e] at this
 cases this
theorem rows_round {r:String} {args:Array Value} {w:World} {R:Value->World->Prop} (l:Nat) (h:Rows P r args w R):RowsIn (Fence.wide.inRound l) n P r args w R:=fun c cs _=>by
 obtain ⟨v,w',h1,h2⟩:=h c cs
 exact ⟨v,w',h1,stepsIn_wide.2 h2⟩
theorem ops_round {Q:Exit->Act->World->Prop} {ops:Array Oper} (lp:Nat) (hnd:noDefer ops=true) (hLO:¬ LetsOut Q):∀ (l:List Nat) (a:Act) (w:World),wpOps P ops Q l a w->wpOpsIn (Fence.wide.inRound lp) n P ops Q l a w
 | [],a,w,h=>h
 | i :: rest,a,w,h=>by
  rw [wpOps_cons] at h
  unfold wpOp at h
  cases ho:ops[i]? with
  | none=>
   rw [ho] at h
   simp only [wpOpsIn,ho]
   exact ops_round lp hnd hLO rest a w h
  | some o=>
   rw [ho] at h
   simp only [wpOpsIn,ho]
   simp only at h
   by_cases hw:Region.wanted o (yielded ops a.tmps)=true
   ·rw [if_pos hw] at h ⊢
    rcases h with h | ⟨_,h⟩
    ·refine ⟨fun _ _=>trivial,?_⟩
     rw [Oper.semAt_plain _ _ _ (noDefer_at hnd ho)]
     unfold Oper.wp at h
     generalize (execOp a.eval o).run P w=r at h
     cases r with
     | ok x w'=>
      cases x with
      | value v=>exact ops_round lp hnd hLO rest _ _ h
      | skip=>exact ops_round lp hnd hLO rest _ _ h
      | defer d=>exact ops_round lp hnd hLO rest _ _ h
      | enter f args=>
       refine ⟨fun hd=>(by cases hd),(CallsIn.inRound lp (callsIn_wide.2 h)).mono ?_⟩
       intro e w'' he
       cases e with
       | returned u=>exact ops_round lp hnd hLO rest _ _ he
       | panicked c=>exact he
       | outgrown=>exact he
      | row r args=>
       refine ⟨fun hd=>(by cases hd),rows_round lp (Rows.mono h (fun u w'' he=>ops_round lp hnd hLO rest _ _ he))⟩
      | _=>exact h.elim
     | halt x w'=>cases x <;> first | exact h | exact h.elim
    ·exact absurd h hLO
   ·rw [if_neg hw] at h ⊢
    exact ⟨fun _ _=>trivial,ops_round lp hnd hLO rest _ _ h⟩
theorem region_round {Q:Exit->Act->World->Prop} {ops:Array Oper} {id:Nat} {a:Act} {w:World} (lp:Nat) (hnd:noDefer ops=true) (hLO:¬ LetsOut Q) (hm:P.follows .mixedOrders=true) (h:wpAny P .any ops Q ops.size (Array.replicate ops.size false) a w.drew) :
  (Code.region id ops true).wpIn (Fence.wide.inRound lp) n P Q a w:=
 wpIn_region_draw fun t=>ops_round lp hnd hLO _ _ _ (by
  simp only [Region.schedule,hm,Bool.true_or,if_true]
  exact wpAny_sound ops.size t _ a _ h)
theorem wpIn_region_L {Q:Exit->Act->World->Prop} {ops:Array Oper} {S:World->Prop} {id:Nat} {a:Act} {w:World} (ts:List Nat) (lp:Nat) (hnd:noDefer ops=true) (hLO:¬ LetsOut Q) (hm:P.follows .mixedOrders=true) (hS:S w.drew) (h:S w.drew->anyL P .any ops Q S ts ops.size (Array.replicate ops.size false) a w.drew) :
  (Code.region id ops true).wpIn (Fence.wide.inRound lp) n P Q a w:=
 region_round lp hnd hLO hm (any_of_G _ _ _ _ (h hS (fun j o ho hj=>by
  have h1:=getD_repl _ _ hj
  have h2:=(Array.getElem?_eq_some_iff.1 ho).1
  omega)))
def notBytes (o:Obj):Prop:=∀ c f,o ≠ .cells c 5 f
structure KeptOn (K:Nat->Prop) (w w':World):Prop where
 os:w'.os=w.os
 tape:w'.tape=w.tape
 output:w'.output=w.output
 size:w.heap.size<=w'.heap.size
 block:∀ k,K k->w'.heap[k]? = w.heap[k]?
theorem KeptOn.refl (K:Nat->Prop) (w:World):KeptOn K w w:=⟨rfl,rfl,rfl,Nat.le_refl _,fun _ _=>rfl⟩
theorem KeptOn.trans {K:Nat->Prop} {a b c:World} (h:KeptOn K a b) (g:KeptOn K b c):KeptOn K a c:=⟨g.os.trans h.os,g.tape.trans h.tape,g.output.trans h.output,Nat.le_trans h.size g.size,fun k hk=>(g.block k hk).trans (h.block k hk)⟩
theorem KeptOn.of_below {K:Nat->Prop} {m:Nat} {w w':World} (hb:Below m w w') (h:∀ k,K k->k < m):KeptOn K w w':=⟨hb.os,hb.tape,hb.output,hb.size,fun k hk=>hb.block k (h k hk)⟩
theorem KeptOn.to_below {K:Nat->Prop} {m:Nat} {w w':World} (hb:KeptOn K w w') (h:∀ k,k < m->K k):Below m w w':=⟨hb.os,hb.tape,hb.output,hb.size,fun k hk=>hb.block k (h k hk)⟩
theorem KeptOn.put {K:Nat->Prop} {l:Nat} {W W':World} {o:Obj} (h:KeptOn K W W') (hl:¬ K l):KeptOn K W (W'.putObj l o):=
 h.trans ⟨rfl,rfl,rfl,by simp,fun k hk=>World.putObj_heap_other (fun e=>hl (e ▸ hk))⟩
def roundS {α:Type} (K:Nat->Prop) (bid:Nat) (I:List α->World->Prop) (Z:World->Prop) (xs:List α) (W0 Wy W:World):Exit->Act->World->Prop
 | .normal,_,W'=>KeepsOthers W W'/\KeptOn K W W'/\(∀ k o,W0.heap.size<=k->k < Wy.heap.size->W.heap[k]? = some o->notBytes o->W'.heap[k]? = some o)/\I xs W'
 | .exit i,_,W'=>i=bid/\KeepsOthers W W'/\KeptOn K W W'/\(∀ k o,W0.heap.size<=k->k < Wy.heap.size->W.heap[k]? = some o->notBytes o->W'.heap[k]? = some o)/\Z W'
 | _,_,_=>False
def YieldS {α:Type} (F:Fence) (m:Nat) (P:Program) (l:Nat) (K:Nat->Prop) (enc:α->Value) (ok:List α->α->Prop) (J:List α->World->Prop) (Y:World->Prop):Prop:=
 ∀ pre x W0 W,ok pre x->J pre W0->Below W0.heap.size W0 W->YieldAt F m P l #[enc x] W fun e W'=>KeptOn K W W'/\(∀ k o,W0.heap.size<=k->k < W.heap.size->W.heap[k]? = some o->notBytes o->W'.heap[k]? = some o)/\((e = .returned (.bool true)/\J (pre ++ [x]) W')\/(e = .returned (.bool false)/\Y W'))
def StableB (I:World->Prop):Prop:=∀ W W',I W->Below W.heap.size W W'->I W'
def IterS {α:Type} (F:Fence) (m:Nat) (P:Program) (gf:FuncId) (lb:Array Value) (K:Nat->Prop) (enc:α->Value) (ok:List α->α->Prop) (xs:List α) (w:World):Prop:=
 ∀ (l:Nat) (J:List α->World->Prop) (Y:World->Prop),(∀ s,StableB (J s))->StableB Y->YieldS F (m - 1) P l K enc ok J Y->
  ∀ W,Below w.heap.size w W->J [] W->CallsIn F m P gf (#[.func (.yield l) #[] #[]] ++ lb) W fun e W'=>(∃ v,e = .returned v)/\(J xs W'\/Y W')
theorem below_put {B l:Nat} {W W':World} {o:Obj} (h:Below B W W') (hl:B<=l):Below B W (W'.putObj l o):=
 h.trans ⟨rfl,rfl,rfl,by simp,fun k hk=>World.putObj_heap_other (by omega)⟩
theorem below_put2 {n l:Nat} {W W':World} {o:Obj} (h:Below n W W') (hl:l < W.heap.size):Below n (W.putObj l o) (W'.putObj l o):=by
 have hs:=h.size
 refine ⟨h.os,h.tape,h.output,by simpa using hs,fun k hk=>?_⟩
 by_cases e:k=l
 ·subst e
  rw [World.putObj_heap_same (by omega),World.putObj_heap_same hl]
 ·rw [World.putObj_heap_other e,World.putObj_heap_other e]
  exact h.block k hk
theorem wpIn_rangeFunc_stop {α:Type} {g:Operand} {ps:Array Tmp} {assign body:Code} {Q:Exit->Act->World->Prop} {a:Act} {w:World}
  (hro:F.round=none) (h1:1<=n) {gf:Nat} {lb:Array Value} (hg:a.eval g = .func (.func gf) #[] lb) (hFg:F.fn gf) (eg:∀ args w,(callFunc gf args).run P w = .ok (.enter gf args) w)
  {enc:α->Value} {ok:List α->α->Prop} {xs:List α} {K:Nat->Prop} (hK:∀ k,K k->k < w.heap.size) (hiter:IterS F (n - 1) P gf lb K enc ok xs w)
  (hps:ps.size=1) (I:List α->World->Prop) (Z:World->Prop) (bid:Nat) (hIb:∀ s,StableB (I s)) (hZb:StableB Z)
  (hIp:∀ s W l o o',w.heap.size<=l->W.heap[l]? = some o->o.isCells=false->I s W->I s (W.putObj l o'))
  (hZp:∀ W l o o',w.heap.size<=l->W.heap[l]? = some o->o.isCells=false->Z W->Z (W.putObj l o'))
  (h0:I [] w) (Bx:α->World->Act->World->Prop)
  (hBp:∀ x Wy a W l o o',w.heap.size<=l->W.heap[l]? = some o->o.isCells=false->Bx x Wy a W->Bx x Wy a (W.putObj l o'))
  (hassign:∀ (l:Nat) (x:α) (W:World),assign.wpIn (F.inRound l) (n - 1 - 1) P (Exit.then (fun a1 W1=>Bx x W a1 W1/\Below W.heap.size W W1) (fun _ _ _=>False)) { tmps:=(ps.zip #[enc x]).foldl (fun t (p,v)=>t.setIfInBounds p v) a.tmps,defers:=[] } W)
  (hbody:∀ (l:Nat) (pre:List α) (x:α) (W0 Wy W:World) (a1:Act),w.heap.size<=l->ok pre x->I pre W0->Below W0.heap.size W0 W->W0.heap.size<=Wy.heap.size->Wy.heap.size<=W.heap.size->Bx x Wy a1 W->body.wpIn (F.inRound l) (n - 1 - 1) P (roundS K bid I Z (pre ++ [x]) W0 Wy W) a1 W)
  (hdone:∀ (D:Nat) (W:World),w.heap.size<=D->I xs W->W.heap[D]? = some (.deferred (some []))->Q .normal { a with defers:={ target:=.collected D,args:=#[] } :: a.defers } W)
  (hbreak:∀ (D:Nat) (W:World),w.heap.size<=D->Z W->W.heap[D]? = some (.deferred (some []))->(Code.exit bid).wpIn F n P Q { a with defers:={ target:=.collected D,args:=#[] } :: a.defers } W) :
  (Code.rangeFunc g ps assign body).wpIn F n P Q a w:=by
 refine wpIn_rangeFunc ?_
 intro fn hfn
 rw [hro]
 obtain ⟨rec,hrec⟩:∃ rec:LoopState->Option Code->Loop,rec=fun st pe=>{ state:=st,pending:=pe,fn,tmps:=a.tmps,params:=ps,assign,body,defers:=w.heap.size }:=⟨_,rfl⟩
 obtain ⟨W1,hW1⟩:∃ W1,(w.alloc (.deferred (some []))).alloc (.loop (rec .ready none))=W1:=⟨_,rfl⟩
 have hL1:W1.heap[w.heap.size + 1]? = some (.loop (rec .ready none)):=by
  rw [<-hW1]; have:=World.alloc_heap_new (w.alloc (.deferred (some []))) (.loop (rec .ready none)); rwa [World.size_alloc] at this
 have hK1:W1.heap[w.heap.size]? = some (.deferred (some [])):=by
  rw [<-hW1]; exact (Below.heap_alloc _ _ _ (by simp)).trans (World.alloc_heap_new w _)
 have hb1:Below w.heap.size w W1:=by rw [<-hW1]; exact ((Below.refl _ _).alloc (Nat.le_refl _) _).alloc (by simp) _
 have hI1:I [] W1:=hIb _ _ _ h0 hb1
 refine ⟨w.heap.size + 1,[{ target:=.collected w.heap.size,args:=#[] }],W1,{ target:=.fn (.func gf) lb,args:=#[.func (.yield (w.heap.size + 1)) #[] #[]] },W1,gf,
  #[.func (.yield (w.heap.size + 1)) #[] #[]] ++ lb,W1,?_,?_,?_,?_,fun _=>h1,?_⟩
 ·rw [<-hW1,hrec]; exact run_enterLoop_outer _ _ _ _ _
 ·simp only [resolve,hg]
  simp [go_sem]
 ·intro f' hf'; simp [Target.leads] at hf'; subst hf'; exact hFg
 ·simp [invoke,go_sem,eg]
 ·have hbL:∀ {W W':World} {k:Nat} {o:Obj},Below W.heap.size W W'->W.heap[k]? = some o->W'.heap[k]? = some o:=fun hb hk=>(hb.block _ (Array.getElem?_eq_some_iff.1 hk).1).trans hk
  refine (hiter (w.heap.size + 1)
   (fun pre W=>I pre W/\W.heap[w.heap.size + 1]? = some (.loop (rec .ready none))/\W.heap[w.heap.size]? = some (.deferred (some [])))
   (fun W=>Z W/\W.heap[w.heap.size + 1]? = some (.loop (rec .done (some (.exit bid))))/\W.heap[w.heap.size]? = some (.deferred (some [])))
   (fun s W W' hs hb=>⟨hIb _ _ _ hs.1 hb,hbL hb hs.2.1,hbL hb hs.2.2⟩) (fun W W' hs hb=>⟨hZb _ _ hs.1 hb,hbL hb hs.2.1,hbL hb hs.2.2⟩) ?_ W1 hb1 ⟨hI1,hL1,hK1⟩).mono ?_
  ·rintro pre x W0 W hok ⟨hi,hl0,hk0⟩ hb
   have hl:=hbL hb hl0
   have hk:=hbL hb hk0
   have hlt0:w.heap.size + 1 < W0.heap.size:=(Array.getElem?_eq_some_iff.1 hl0).1
   have hy:=run_yield (P:=P) (args:=#[enc x]) hl (by rw [hrec]; simp [hps])
   rw [hrec] at hy
   refine ⟨fn,_,assign,body,hy,roundIn_of_wpIn hfn (wpIn_mono (hassign _ x W) ?_)⟩
   rintro e a1 Wa hp
   cases e with
   | normal=>
    obtain ⟨hBx,hba⟩:=hp
    have hla:=hbL hba hl
    have hka:=hbL hba hk
    refine ⟨_,run_beginRound hla (by rw [hrec]),?_⟩
    have hlta:w.heap.size + 1 < Wa.heap.size:=(Array.getElem?_eq_some_iff.1 hla).1
    have hl2:(Wa.putObj (w.heap.size + 1) (.loop { rec .ready none with state:=.busy })).heap[w.heap.size + 1]? = some (.loop { rec .ready none with state:=.busy }):=World.putObj_heap_same hlta
    have hk2:(Wa.putObj (w.heap.size + 1) (.loop { rec .ready none with state:=.busy })).heap[w.heap.size]? = some (.deferred (some [])):=(World.putObj_heap_other (by omega)).trans hka
    have hb0:Below W0.heap.size W0 Wa:=hb.trans (hba.mono hb.size)
    have hi2:=hIp _ _ _ _ (.loop { rec .ready none with state:=.busy }) (by omega) hl0 rfl hi
    have hb2:=below_put2 (o:=.loop { rec .ready none with state:=.busy }) hb0 hlt0
    have hs0:(W0.putObj (w.heap.size + 1) (.loop { rec .ready none with state:=.busy })).heap.size=W0.heap.size:=by simp
    have hsa:(Wa.putObj (w.heap.size + 1) (.loop { rec .ready none with state:=.busy })).heap.size=Wa.heap.size:=by simp
    refine wpIn_mono (hbody _ pre x _ W _ a1 (by omega) hok hi2 (by rw [hs0]; exact hb2) (by rw [hs0]; exact hb.size) (by rw [hsa]; exact hba.size) (hBp _ _ _ _ _ _ _ (by omega) hla rfl hBx)) ?_
    rintro e a3 W3 hp3
    have hfin:∀ (o:Obj),KeptOn K (Wa.putObj (w.heap.size + 1) (.loop { rec .ready none with state:=.busy })) W3->(∀ k o,(W0.putObj (w.heap.size + 1) (.loop { rec .ready none with state:=.busy })).heap.size<=k->k < W.heap.size->(Wa.putObj (w.heap.size + 1) (.loop { rec .ready none with state:=.busy })).heap[k]? = some o->notBytes o->W3.heap[k]? = some o)->
      KeptOn K W (W3.putObj (w.heap.size + 1) o)/\∀ k x,W0.heap.size<=k->k < W.heap.size->W.heap[k]? = some x->notBytes x->(W3.putObj (w.heap.size + 1) o).heap[k]? = some x:=fun o hb3 hk3=>by
     refine ⟨((((KeptOn.of_below hba (fun k hk=>by have:=hb.size; have:=hK k hk; omega)).put (fun hk=>by have:=hK _ hk; omega)).trans hb3).put (fun hk=>by have:=hK _ hk; omega)),fun k x h1 h2 hx hnb=>?_⟩
     rw [World.putObj_heap_other (by omega)]
     exact hk3 k x (by rw [hs0]; exact h1) h2 (by rw [World.putObj_heap_other (by omega),hba.block k h2]; exact hx) hnb
    cases e with
    | normal=>
     obtain ⟨hk3,hbB,hkk,hi3⟩:=hp3
     have hl3:=hk3.same _ _ hl2 rfl
     have hr:=run_endRound (P:=P) none hl3
     rw [hrec] at hr hl3 ⊢
     obtain ⟨g1,g2⟩:=hfin (.loop { state:=.ready,pending:=none,fn,tmps:=a.tmps,params:=ps,assign,body,defers:=w.heap.size }) hbB hkk
     exact ⟨_,_,hr,g1,g2,.inl ⟨rfl,hIp _ _ _ _ _ (by omega) hl3 rfl hi3,World.putObj_heap_same (Array.getElem?_eq_some_iff.1 hl3).1,(World.putObj_heap_other (by omega)).trans (hk3.same _ _ hk2 rfl)⟩⟩
    | exit i=>
     obtain ⟨rfl,hk3,hbB,hkk,hi3⟩:=hp3
     have hl3:=hk3.same _ _ hl2 rfl
     have hr:=run_endRound (P:=P) (some (.exit i)) hl3
     rw [hrec] at hr hl3 ⊢
     obtain ⟨g1,g2⟩:=hfin (.loop { state:=.done,pending:=some (.exit i),fn,tmps:=a.tmps,params:=ps,assign,body,defers:=w.heap.size }) hbB hkk
     exact ⟨_,_,hr,g1,g2,.inr ⟨rfl,hZp _ _ _ _ (by omega) hl3 rfl hi3,World.putObj_heap_same (Array.getElem?_eq_some_iff.1 hl3).1,(World.putObj_heap_other (by omega)).trans (hk3.same _ _ hk2 rfl)⟩⟩
    | ret=>exact hp3.elim
    | goto t=>exact hp3.elim
    | panic ch=>exact hp3.elim
    | outgrown=>exact hp3.elim
   | ret=>exact hp.elim
   | exit i=>exact hp.elim
   | goto t=>exact hp.elim
   | panic ch=>exact hp.elim
   | outgrown=>exact hp.elim
  ·rintro e W2 ⟨⟨v,rfl⟩,hi | hi⟩
   ·obtain ⟨hi,hl,hk⟩:=hi
    exact ⟨none,_,by have:=run_endLoop (P:=P) hl (by rw [hrec]; simp); rw [hrec] at this; exact this,hdone _ _ (Nat.le_refl _) (hIp _ _ _ _ _ (by omega) hl rfl hi) ((World.putObj_heap_other (by omega)).trans hk)⟩
   ·obtain ⟨hi,hl,hk⟩:=hi
    exact ⟨some (.exit bid),_,by have:=run_endLoop (P:=P) hl (by rw [hrec]; simp); rw [hrec] at this; exact this,hbreak _ _ (Nat.le_refl _) (hZp _ _ _ _ (by omega) hl rfl hi) ((World.putObj_heap_other (by omega)).trans hk)⟩
theorem zip_one (p:Tmp) (v:Value) (t:Array Value):(#[p].zip #[v]).foldl (fun t (p,v)=>t.setIfInBounds p v) t=t.setIfInBounds p v:=by simp
theorem wpIn_rangeFunc_box {α:Type} {g:Operand} {p bs:Tmp} {assign body:Code} {Q:Exit->Act->World->Prop} {a:Act} {w:World} (T:TypeId) (cs:α->Array Value)
  (hro:F.round=none) (h1:1<=n) {gf:Nat} {lb:Array Value} (hg:a.eval g = .func (.func gf) #[] lb) (hFg:F.fn gf) (eg:∀ args w,(callFunc gf args).run P w = .ok (.enter gf args) w)
  {enc:α->Value} {ok:List α->α->Prop} {xs:List α} {K:Nat->Prop} (hK:∀ k,K k->k < w.heap.size) (hiter:IterS F (n - 1) P gf lb K enc ok xs w)
  (I:List α->World->Prop) (Z:World->Prop) (bid:Nat) (hIb:∀ s,StableB (I s)) (hZb:StableB Z)
  (hIp:∀ s W l o o',w.heap.size<=l->W.heap[l]? = some o->o.isCells=false->I s W->I s (W.putObj l o'))
  (hZp:∀ W l o o',w.heap.size<=l->W.heap[l]? = some o->o.isCells=false->Z W->Z (W.putObj l o'))
  (h0:I [] w)
  (hassign:∀ (l:Nat) (x:α) (W:World),assign.wpIn (F.inRound l) (n - 1 - 1) P (Exit.then (fun a1 W1=>a1 = { tmps:=(a.tmps.setIfInBounds p (enc x)).setIfInBounds bs (.pointer (some ⟨W.heap.size,0,none⟩)),defers:=[] }/\W1=W.alloc (.cells (cs x) T)) (fun _ _ _=>False)) { tmps:=a.tmps.setIfInBounds p (enc x),defers:=[] } W)
  (hbody:∀ (l:Nat) (pre:List α) (x:α) (W0 Wy W:World),w.heap.size<=l->ok pre x->I pre W0->Below W0.heap.size W0 W->W0.heap.size<=Wy.heap.size->Wy.heap.size<=W.heap.size->W.heap[Wy.heap.size]? = some (.cells (cs x) T (0,0))->
   body.wpIn (F.inRound l) (n - 1 - 1) P (roundS K bid I Z (pre ++ [x]) W0 Wy W) { tmps:=(a.tmps.setIfInBounds p (enc x)).setIfInBounds bs (.pointer (some ⟨Wy.heap.size,0,none⟩)),defers:=[] } W)
  (hdone:∀ (D:Nat) (W:World),w.heap.size<=D->I xs W->W.heap[D]? = some (.deferred (some []))->Q .normal { a with defers:={ target:=.collected D,args:=#[] } :: a.defers } W)
  (hbreak:∀ (D:Nat) (W:World),w.heap.size<=D->Z W->W.heap[D]? = some (.deferred (some []))->(Code.exit bid).wpIn F n P Q { a with defers:={ target:=.collected D,args:=#[] } :: a.defers } W) :
  (Code.rangeFunc g #[p] assign body).wpIn F n P Q a w:=by
 refine wpIn_rangeFunc_stop hro h1 hg hFg eg hK hiter rfl I Z bid hIb hZb hIp hZp h0
  (fun x Wy a1 W=>a1 = { tmps:=(a.tmps.setIfInBounds p (enc x)).setIfInBounds bs (.pointer (some ⟨Wy.heap.size,0,none⟩)),defers:=[] }/\W.heap[Wy.heap.size]? = some (.cells (cs x) T (0,0)))
  (fun x Wy a1 W l o o' hl hlo ho hx=>⟨hx.1,(World.putObj_heap_other (fun e=>?_)).trans hx.2⟩) (fun l x W=>?_) (fun l pre x W0 Wy W a1 h1 h2 h3 h4 h5 h6 hx=>?_) hdone hbreak
 ·rw [<-e,hx.2] at hlo
  cases hlo; cases ho
 ·rw [zip_one]
  refine wpIn_mono (hassign l x W) ?_
  rintro e a1 W1 hp
  cases e with
  | normal=>
   obtain ⟨rfl,rfl⟩:=hp
   exact ⟨⟨rfl,World.alloc_heap_new _ _⟩,(Below.refl _ _).alloc (Nat.le_refl _) _⟩
  | ret=>exact hp.elim
  | exit i=>exact hp.elim
  | goto t=>exact hp.elim
  | panic ch=>exact hp.elim
  | outgrown=>exact hp.elim
 ·obtain ⟨rfl,hx2⟩:=hx
  exact hbody l pre x W0 Wy W h1 h2 h3 h4 h5 h6 hx2
theorem wpIn_rangeFunc_brk {α:Type} {g:Operand} {p bs:Tmp} {assign body:Code} {Q:Exit->Act->World->Prop} {a:Act} {w:World} (T:TypeId) (cs:α->Array Value)
  (hro:F.round=none) (h1:1<=n) {gf:Nat} {lb:Array Value} (hg:a.eval g = .func (.func gf) #[] lb) (hFg:F.fn gf) (eg:∀ args w,(callFunc gf args).run P w = .ok (.enter gf args) w)
  {enc:α->Value} {ok:List α->α->Prop} {xs:List α} {K:Nat->Prop} (hK:∀ k,K k->k < w.heap.size) (hiter:IterS F (n - 1) P gf lb K enc ok xs w)
  (I:List α->World->Prop) (Z:World->Prop) (bid:Nat) (hIb:∀ s,StableB (I s)) (hZb:StableB Z)
  (hIp:∀ s W l o o',w.heap.size<=l->W.heap[l]? = some o->o.isCells=false->I s W->I s (W.putObj l o'))
  (hZp:∀ W l o o',w.heap.size<=l->W.heap[l]? = some o->o.isCells=false->Z W->Z (W.putObj l o'))
  (h0:I [] w) (hIZ:∀ W,I xs W->Z W)
  (hassign:∀ (l:Nat) (x:α) (W:World),assign.wpIn (F.inRound l) (n - 1 - 1) P (Exit.then (fun a1 W1=>a1 = { tmps:=(a.tmps.setIfInBounds p (enc x)).setIfInBounds bs (.pointer (some ⟨W.heap.size,0,none⟩)),defers:=[] }/\W1=W.alloc (.cells (cs x) T)) (fun _ _ _=>False)) { tmps:=a.tmps.setIfInBounds p (enc x),defers:=[] } W)
  (hbody:∀ (l:Nat) (pre:List α) (x:α) (W0 Wy W:World),w.heap.size<=l->ok pre x->I pre W0->Below W0.heap.size W0 W->W0.heap.size<=Wy.heap.size->Wy.heap.size<=W.heap.size->W.heap[Wy.heap.size]? = some (.cells (cs x) T (0,0))->
   body.wpIn (F.inRound l) (n - 1 - 1) P (roundS K bid I Z (pre ++ [x]) W0 Wy W) { tmps:=(a.tmps.setIfInBounds p (enc x)).setIfInBounds bs (.pointer (some ⟨Wy.heap.size,0,none⟩)),defers:=[] } W)
  (hend:∀ (D:Nat) (W:World),w.heap.size<=D->Z W->W.heap[D]? = some (.deferred (some []))->Q .normal { a with defers:={ target:=.collected D,args:=#[] } :: a.defers } W) :
  (Code.rangeFunc g #[p] assign body).wpIn F n P (Exit.inBlock bid Q) a w:=
 wpIn_rangeFunc_box T cs hro h1 hg hFg eg hK hiter I Z bid hIb hZb hIp hZp h0 hassign hbody (fun D W hD hI hk=>hend D W hD (hIZ W hI) hk)
  (fun D W hD hZ hk=>wpIn_exit (by show (if bid=bid then _ else _); rw [if_pos rfl]; exact hend D W hD hZ hk))
end
section
attribute [local go_sem] Oper.semAt_some
theorem MapG.below_lt {α:Type} {G:KeyG α} {b n B:Nat} {F:α->Option Value} {W W':World} (h:MapG G b n F W) (hb:Below B W W') (hlt:b < B):MapG G b n F W':=by
 obtain ⟨D,⟨es,clock,h1,h2⟩,h3⟩:=h
 exact ⟨D,⟨es,clock,(hb.block b hlt).trans h1,h2⟩,h3⟩
def datV (xs:List Itm) (d:Int × Int):Option Value:=(xs.find? (fun x=>decide (x.d=d))).map fun x=>.string ⟨x.data.toArray⟩
theorem datV_get (xs:List Itm) (d:Int × Int):(datV xs d).getD (.string ⟨#[]⟩) = .string ⟨(datD xs d).toArray⟩:=by
 unfold datV datD datI
 cases xs.find? (fun x=>decide (x.d=d)) <;> rfl
theorem zeroStr (W:World):(zeroValue 9).run Tryz.prog W = .ok (.string ⟨#[]⟩) W:=by kernel_rfl
abbrev Cd:=(Int × Int) × Nat
def cdVal (xs:List Itm) (x:Cd):Value:=.agg #[.int .u64 x.1.1,.int .u64 x.1.2,.string ⟨(datD xs x.1).toArray⟩,.int .i64 (x.2:Int)]
def cdCs (xs:List Itm) (x:Cd):Array Value:=#[.int .u64 x.1.1,.int .u64 x.1.2,.string ⟨(datD xs x.1).toArray⟩,.int .i64 (x.2:Int)]
def candE:List (Int × Int)->Nat->List Cd
 | [],_=>[]
 | d :: l,k=>(d,k + 1) :: candE l (k + 1)
def candS (l base:List (Int × Int)):List Cd:=base.map (fun d=>(d,0)) ++ candE l 0
theorem candE_snoc:∀ (l:List (Int × Int)) (d:Int × Int) (k:Nat),candE (l ++ [d]) k=candE l k ++ [(d,k + l.length + 1)]
 | [],d,k=>by simp [candE]
 | x :: l,d,k=>by
  rw [List.cons_append,candE,candE,candE_snoc l d (k + 1),List.length_cons,List.cons_append]
  rw [show k + 1 + l.length + 1=k + (l.length + 1) + 1 by omega]
def okC (xs:List Cd) (pre:List Cd) (x:Cd):Prop:=(pre ++ [x]) <+: xs
structure CaIn (xs:List Itm) (l base:List (Int × Int)) (K:Nat->Prop) (B bb db lb mb n:Nat) (ba la:Option Addr) (bc lc:Nat) (W:World):Prop where
 bx:W.cell? ⟨bb,0,none⟩=some (.slice ba base.length bc)
 dx:W.cell? ⟨db,0,none⟩=some (.map (some mb))
 lx:W.cell? ⟨lb,0,none⟩=some (.slice la l.length lc)
 bd:Digs B W ba base
 ld:Digs B W la l
 mp:MapG digG mb n (datV xs) W
 okb:∀ d ∈ base,OkD d
 okl:∀ d ∈ l,OkD d
 kb:K bb/\K db/\K lb/\K mb
 kB:∀ k,k < B->K k
theorem cell_on {K:Nat->Prop} {W W':World} (hb:KeptOn K W W') {p:Addr} (hp:K p.block):W'.cell? p=W.cell? p:=World.cell?_of_block (w:=W) (hb.block p.block hp)
theorem MapG.on {α:Type} {G:KeyG α} {b n:Nat} {K:Nat->Prop} {F:α->Option Value} {W W':World} (h:MapG G b n F W) (hb:KeptOn K W W') (hk:K b):MapG G b n F W':=by
 obtain ⟨D,⟨es,clock,h1,h2⟩,h3⟩:=h
 exact ⟨D,⟨es,clock,(hb.block b hk).trans h1,h2⟩,h3⟩
theorem CaIn.kept {xs:List Itm} {l base:List (Int × Int)} {K:Nat->Prop} {B bb db lb mb n:Nat} {ba la:Option Addr} {bc lc:Nat} {W W':World} (h:CaIn xs l base K B bb db lb mb n ba la bc lc W) (hb:KeptOn K W W'):CaIn xs l base K B bb db lb mb n ba la bc lc W':=
 ⟨(cell_on hb h.kb.1).trans h.bx,(cell_on hb h.kb.2.1).trans h.dx,(cell_on hb h.kb.2.2.1).trans h.lx,h.bd.below (hb.to_below h.kB) (Nat.le_refl _),h.ld.below (hb.to_below h.kB) (Nat.le_refl _),h.mp.on hb h.kb.2.2.2,h.okb,h.okl,h.kb,h.kB⟩
theorem CaIn.look {xs:List Itm} {l base:List (Int × Int)} {K:Nat->Prop} {B bb db lb mb n:Nat} {ba la:Option Addr} {bc lc:Nat} {W:World} (h:CaIn xs l base K B bb db lb mb n ba la bc lc W) {x y:Int} (hd:OkD (x,y)):(Instr.lookup 70 (.map (some mb)) (.agg #[.int .u64 x,.int .u64 y]) false).run Tryz.prog W = .ok (.string ⟨(datD xs (x,y)).toArray⟩) W:=by
 have:=h.mp.look Tryz.underlying70 (zeroStr W) (a:=(x,y)) hd
 rw [datV_get] at this
 exact this
theorem yield_cases {e:Ending} {P Q:Prop} (h:(e = .returned (.bool true)/\P)\/(e = .returned (.bool false)/\Q)):∃ b,e = .returned (.bool b)/\((b=true/\P)\/(b=false/\Q)):=by
 rcases h with ⟨rfl,h⟩ | ⟨rfl,h⟩
 ·exact ⟨true,rfl,.inl ⟨rfl,h⟩⟩
 ·exact ⟨false,rfl,.inr ⟨rfl,h⟩⟩
theorem cand_iter {xs:List Itm} {l base:List (Int × Int)} {K:Nat->Prop} {B bb db lb mb n:Nat} {ba la:Option Addr} {bc lc:Nat} {w:World} (hd:CaIn xs l base K B bb db lb mb n ba la bc lc w) (hK:∀ k,K k->k < w.heap.size) (hll:(l.length:Int)<=1000000) (hbl:(base.length:Int)<=1000000) (m:Nat) (hm:1<=m) :
  IterS Fence.wide m Tryz.prog 110 #[.pointer (some ⟨bb,0,none⟩),.pointer (some ⟨db,0,none⟩),.pointer (some ⟨lb,0,none⟩)] K (cdVal xs) (okC (candS l base)) (candS l base) w:=by
 intro lp J Y hJ hY hYl W hbW h0
 refine callsIn_of_wp Tryz.func110 rfl trivial ?_ rfl
 simp only [Tryz.ntmps110,List.size_toArray,List.length_cons,List.length_nil,Nat.reduceAdd,Nat.reduceSub,Array.replicate_succ,Array.replicate_zero,List.push_toArray,List.append_toArray,List.nil_append,List.cons_append]
 have HJ:=hid hJ
 have HYL:=hid hYl
 have HK:=hid hK
 have HD0:=hid (hd.kept (KeptOn.of_below hbW hK))
 have HBW:Hid (w.heap.size<=W.heap.size):=hid hbW.size
 have H0:=hid h0
 obtain ⟨nb,hnb⟩:∃ nb,nb=base.length:=⟨_,rfl⟩
 obtain ⟨nl,hnl⟩:∃ nl,nl=l.length:=⟨_,rfl⟩
 have HNB:Hid (nb=base.length):=hid hnb
 have HNL:Hid (nl=l.length):=hid hnl
 rw [<-hnb] at hbl
 rw [<-hnl] at hll
 have hbx:=HD0.out.bx
 rw [<-hnb] at hbx
 clear hJ hYl hd hbW h0 hnb hnl
 gi_wp2
 gi_loopw [11] (fun i wr=>∃ (k:Nat),i = .int .i64 (k:Int)/\k<=nb/\Hid (J ((base.take k).map fun d=>(d,0)) wr)/\Hid (CaIn xs l base K B bb db lb mb n ba la bc lc wr)/\Hid (w.heap.size<=wr.heap.size)) (fun i _=>nb - (intOf i).toNat)
 case atStart=>exact ⟨0,rfl,by omega,H0,HD0,HBW⟩
 clear H0 HD0 HBW
 obtain ⟨k,rfl,hk,HJ0,HD,HBW⟩:=hrel
 by_cases hlt:k < nb
 ·have hkn:(k:Int) < (nb:Int):=by omega
  have hkl:k < base.length:=by rw [<-HNB.out]; exact hlt
  obtain ⟨b0,o0,haa,hb0,q0,q1⟩:=HD.out.bd k hkl
  have hok:=HD.out.okb _ (List.getElem_mem hkl)
  have hnx:(base.take (k + 1)).map (fun d=>((d,0):Cd))=(base.take k).map (fun d=>((d,0):Cd)) ++ [(base[k],0)]:=by rw [List.take_succ_eq_append_getElem hkl,List.map_append]; rfl
  have hpr:((base.take k).map (fun d=>((d,0):Cd)) ++ [(base[k],0)]) <+: candS l base:=by
   rw [<-hnx]
   refine ⟨(base.drop (k + 1)).map (fun d=>((d,0):Cd)) ++ candE l 0,?_⟩
   unfold candS
   rw [<-List.append_assoc,<-List.map_append,List.take_append_drop]
  generalize base[k]=d at *
  obtain ⟨x,y⟩:=d
  simp only at q0 q1
  obtain ⟨v,hv⟩:∃ v,v=wr.alloc (.cells #[.int .u64 x,.int .u64 y] 41):=⟨_,rfl⟩
  have hbv:Below wr.heap.size wr v.drew:=by rw [hv]; exact ((Below.refl _ _).alloc (Nat.le_refl _) _).drew
  have hkv:BK wr.heap.size #[.int .u64 x,.int .u64 y] 41 v.drew:=by
   have:BK wr.heap.size #[.int .u64 x,.int .u64 y] 41 v:=by rw [hv]; exact BK.new _ _ _
   exact this
  have hdv:=HD.out.kept (KeptOn.of_below hbv (fun k hk=>Nat.lt_of_lt_of_le (HK.out k hk) HBW.out))
  have hlk:=hdv.look hok
  have hdx:=hdv.dx
  obtain ⟨fn,tmps,assign,body,hy,hR⟩:=HYL.out _ ((x,y),0) wr v.drew hpr HJ0.out hbv
  simp only [cdVal] at hy
  rw [show ((0:Nat):Int)=0 from rfl] at hy
  obtain ⟨c0,c1⟩:=BK.c2 (show BK _ #[.int .u64 x,.int .u64 y] _ _ from hkv)
  have HR:=hid hR
  have HBV:=hid hbv
  have HNX:=hid hnx
  rw [hv] at hlk hdx hy c0 c1 HR
  subst haa
  have HV:=hid hv
  clear hv hbv hkv hdv hR hnx hpr hok
  gi_wp2
  have hmx:Tryz.prog.follows .mixedOrders=true:=by kernel_rfl
  gi_region_with_o ((refine HR.out.mono ?_); rintro e W3 ⟨hbB,hkp,hcase⟩; obtain ⟨bv,rfl,hbv⟩:=yield_cases hcase)
  all_goals
   rw [<-HV.out] at hbB hkp
   have hd4:=HD.out.kept ((KeptOn.of_below HBV.out (fun k hk=>Nat.lt_of_lt_of_le (HK.out k hk) HBW.out)).trans hbB)
   have hw4:w.heap.size<=W3.heap.size:=Nat.le_trans HBW.out (Nat.le_trans HBV.out.size hbB.size)
   clear hy hlk hdx c0 c1 hkp hbB HBV HV HR
   have HD4:=hid hd4
   have HW4:=hid hw4
   clear hd4 hw4 HD HBW HJ0
   rcases hbv with ⟨rfl,hJ4⟩ | ⟨rfl,hY4⟩
   ·have HJ4:=hid hJ4
    clear hJ4
    gi_wp2
    go_roundw
    case rel=>exact ⟨k + 1,by go_num,by omega,by rw [HNX.out]; exact HJ4,HD4,HW4⟩
    case measure=>simp [intOf] <;> omega
   ·gi_wp2
    refine bodyPost_ret (results_none rfl _ _ _) rfl ?_
    exact ⟨⟨_,rfl⟩,.inr hY4⟩
 ·obtain rfl:k=nb:=by omega
  have hkn:¬ (k:Int) < (k:Int):=by omega
  have htk:base.take k=base:=List.take_of_length_le (by have:=HNB.out; omega)
  rw [htk] at HJ0
  have hlx:=HD.out.lx
  rw [<-HNL.out] at hlx
  clear htk
  gi_wp2
  gi_loopw [26] (fun i wr=>∃ (k:Nat),i = .int .i64 (k:Int)/\k<=nl/\Hid (J (base.map (fun d=>(d,0)) ++ candE (l.take k) 0) wr)/\Hid (CaIn xs l base K B bb db lb mb n ba la bc lc wr)/\Hid (w.heap.size<=wr.heap.size)) (fun i _=>nl - (intOf i).toNat)
  case atStart=>exact ⟨0,rfl,by omega,hid (by simpa [candE] using HJ0.out),HD,HBW⟩
  clear HJ0 HD HBW hlx
  obtain ⟨j,rfl,hj,HJ0,HD,HBW⟩:=hrel
  by_cases hlt2:j < nl
  ·have hjn:(j:Int) < (nl:Int):=by omega
   have hjl:j < l.length:=by rw [<-HNL.out]; exact hlt2
   obtain ⟨b0,o0,haa,hb0,q0,q1⟩:=HD.out.ld j hjl
   have hok:=HD.out.okl _ (List.getElem_mem hjl)
   have hnx:base.map (fun d=>((d,0):Cd)) ++ candE (l.take (j + 1)) 0=(base.map (fun d=>((d,0):Cd)) ++ candE (l.take j) 0) ++ [(l[j],j + 1)]:=by
    rw [List.take_succ_eq_append_getElem hjl,candE_snoc,List.append_assoc,List.length_take,Nat.min_eq_left (by omega),Nat.zero_add]
   have hpr:((base.map (fun d=>((d,0):Cd)) ++ candE (l.take j) 0) ++ [(l[j],j + 1)]) <+: candS l base:=by
    rw [<-hnx]
    unfold candS
    refine (List.prefix_append_right_inj _).2 ?_
    have key:∀ (r s:List (Int × Int)) (q:Nat),candE r q <+: candE (r ++ s) q:=by
     intro r
     induction r with
     | nil=>intro s q; exact List.nil_prefix
     | cons d r ih=>
      intro s q
      rw [List.cons_append,candE,candE]
      exact List.cons_prefix_cons.2 ⟨rfl,ih s _⟩
    have:=key (l.take (j + 1)) (l.drop (j + 1)) 0
    rwa [List.take_append_drop] at this
   generalize l[j]=d at *
   obtain ⟨x,y⟩:=d
   simp only at q0 q1
   obtain ⟨v,hv⟩:∃ v,v=wr.alloc (.cells #[.int .u64 x,.int .u64 y] 41):=⟨_,rfl⟩
   have hbv:Below wr.heap.size wr v.drew:=by rw [hv]; exact ((Below.refl _ _).alloc (Nat.le_refl _) _).drew
   have hkv:BK wr.heap.size #[.int .u64 x,.int .u64 y] 41 v.drew:=by
    have:BK wr.heap.size #[.int .u64 x,.int .u64 y] 41 v:=by rw [hv]; exact BK.new _ _ _
    exact this
   have hdv:=HD.out.kept (KeptOn.of_below hbv (fun k hk=>Nat.lt_of_lt_of_le (HK.out k hk) HBW.out))
   have hlk:=hdv.look hok
   have hdx:=hdv.dx
   have hwj:IntKind.i64.wrap ((j:Int) + 1)=((j + 1:Nat):Int):=by rw [wrap_i64 (by omega) (by omega)]; omega
   obtain ⟨j1,hj1⟩:∃ j1,j1=j + 1:=⟨_,rfl⟩
   rw [<-hj1] at hpr hnx hwj
   obtain ⟨fn,tmps,assign,body,hy,hR⟩:=HYL.out _ ((x,y),j1) wr v.drew hpr HJ0.out hbv
   simp only [cdVal] at hy
   obtain ⟨c0,c1⟩:=BK.c2 (show BK _ #[.int .u64 x,.int .u64 y] _ _ from hkv)
   have HR:=hid hR
   have HBV:=hid hbv
   have HNX:=hid hnx
   have HJ1:Hid (j1=j + 1):=hid hj1
   rw [hv] at hlk hdx hy c0 c1 HR
   subst haa
   have HV:=hid hv
   clear hv hbv hkv hdv hR hnx hpr hok hj1
   gi_wp2
   have hmx:Tryz.prog.follows .mixedOrders=true:=by kernel_rfl
   gi_region_with_o ((refine HR.out.mono ?_); rintro e W3 ⟨hbB,hkp,hcase⟩; obtain ⟨bv,rfl,hbv⟩:=yield_cases hcase)
   all_goals
    rw [<-HV.out] at hbB hkp
    have hd4:=HD.out.kept ((KeptOn.of_below HBV.out (fun k hk=>Nat.lt_of_lt_of_le (HK.out k hk) HBW.out)).trans hbB)
    have hw4:w.heap.size<=W3.heap.size:=Nat.le_trans HBW.out (Nat.le_trans HBV.out.size hbB.size)
    clear hy hlk hdx c0 c1 hkp hbB HBV HV HR
    have HD4:=hid hd4
    have HW4:=hid hw4
    clear hd4 hw4 HD HBW HJ0
    rcases hbv with ⟨rfl,hJ4⟩ | ⟨rfl,hY4⟩
    ·have HJ4:=hid hJ4
     clear hJ4
     gi_wp2
     go_roundw
     case rel=>exact ⟨j1,rfl,by have:=HJ1.out; omega,by rw [HNX.out]; exact HJ4,HD4,HW4⟩
     case measure=>
      have:=HJ1.out
      simp only [intOf]
      omega
    ·gi_wp2
     refine bodyPost_ret (results_none rfl _ _ _) rfl ?_
     exact ⟨⟨_,rfl⟩,.inr hY4⟩
  ·obtain rfl:j=nl:=by omega
   have hjn:¬ (j:Int) < (j:Int):=by omega
   have htl:l.take j=l:=List.take_of_length_le (by have:=HNL.out; omega)
   rw [htl] at HJ0
   clear htl HD
   gi_wp2
   go_end0
   exact ⟨⟨_,rfl⟩,.inl HJ0.out⟩
end
def txD (xs:List Itm) (d c:Int × Int):List UInt8:=(encL (diffS (datD xs c) (datD xs d))).1
theorem txS_eq (xs:List Itm) (d c:Int × Int):txS xs d c=putX (txD xs d c):=rfl
def pkO (xs:List Itm) (d:Int × Int) (cs:List (Int × Int)):Option ((Int × Int) × Nat):=pickP (fun c=>(txS xs d c).length) cs none
def visC (pre:List Cd) (i:Nat):List (Int × Int):=(pre.filter (fun c=>decide (c.2<=i))).map (·.1)
theorem visC_snoc (pre:List Cd) (c:Int × Int) (f i:Nat):visC (pre ++ [(c,f)]) i=if f<=i then visC pre i ++ [c] else visC pre i:=by
 unfold visC
 rw [List.filter_append,List.map_append]
 by_cases h:f<=i
 ·rw [if_pos h,List.filter_cons,if_pos (by simpa using h)]; rfl
 ·rw [if_neg h,List.filter_cons,if_neg (by simpa using h)]; simp
theorem candE_vis:∀ (l:List (Int × Int)) (k i:Nat),((candE l k).filter (fun c=>decide (c.2<=k + i))).map (·.1)=l.take i
 | [],k,i=>by simp [candE]
 | d :: l,k,0=>by
  rw [candE,List.filter_cons,if_neg (by simp),List.take_zero]
  have key:∀ (l:List (Int × Int)) (q:Nat),k<=q->(candE l q).filter (fun c=>decide (c.2<=k + 0))=[]:=by
   intro l
   induction l with
   | nil=>intro q _; rfl
   | cons d l ih=>
    intro q hq
    rw [candE,List.filter_cons,if_neg (by simp; omega),ih (q + 1) (by omega)]
  rw [key l (k + 1) (by omega)]; rfl
 | d :: l,k,i + 1=>by
  rw [candE,List.filter_cons,if_pos (by simp),List.map_cons,List.take_succ_cons]
  have:=candE_vis l (k + 1) i
  rw [show k + 1 + i=k + (i + 1) by omega] at this
  rw [this]
theorem visC_cand (base l:List (Int × Int)) (i:Nat):visC (base.map (fun d=>((d,0):Cd)) ++ candE l 0) i=base ++ l.take i:=by
 unfold visC
 rw [List.filter_append,List.map_append]
 have h1:(base.map (fun d=>((d,0):Cd))).filter (fun c=>decide (c.2<=i))=base.map (fun d=>((d,0):Cd)):=by
  rw [List.filter_eq_self]
  intro c hc
  obtain ⟨d,_,rfl⟩:=List.mem_map.1 hc
  simp
 have h2:=candE_vis l 0 i
 rw [Nat.zero_add] at h2
 rw [h1,h2,List.map_map]
 have:((fun x:Cd=>x.1) ∘ fun d:Int × Int=>((d,0):Cd))=id:=rfl
 rw [this,List.map_id]
theorem candE_len:∀ (l:List (Int × Int)) (k:Nat),(candE l k).length=l.length
 | [],_=>rfl
 | d :: l,k=>by rw [candE,List.length_cons,List.length_cons,candE_len]
theorem candE_at:∀ (l:List (Int × Int)) (k j:Nat) (h:j < (candE l k).length),((candE l k)[j]).2=k + j + 1
 | [],k,j,h=>by simp [candE] at h
 | d :: l,k,0,h=>by simp [candE]
 | d :: l,k,j + 1,h=>by
  simp only [candE,List.getElem_cons_succ]
  rw [candE_at l (k + 1) j]; omega
theorem visC_break {l base:List (Int × Int)} {pre:List Cd} {c:Int × Int} (h:okC (candS l base) pre (c,l.length)):∀ i,i < l.length->visC pre i=base ++ l.take i:=by
 intro i hi
 obtain ⟨r,hr⟩:=h
 have hlen:=congrArg List.length hr
 unfold candS at hr hlen
 simp only [List.length_append,List.length_map,List.length_cons,List.length_nil,candE_len] at hlen
 have hat:(base.map (fun d=>((d,0):Cd)) ++ candE l 0)[pre.length]'(by simp [candE_len]; omega)=(c,l.length):=by
  have:(pre ++ [(c,l.length)] ++ r)[pre.length]'(by simp)=(c,l.length):=by simp
  simp only [hr] at this
  exact this
 by_cases hb:pre.length < base.length
 ·rw [List.getElem_append_left (by simpa using hb)] at hat
  simp only [List.getElem_map,Prod.mk.injEq] at hat
  omega
 ·rw [List.getElem_append_right (by simpa using hb)] at hat
  have h2:=candE_at l 0 (pre.length - (base.map (fun d=>((d,0):Cd))).length) (by simp [candE_len]; omega)
  rw [hat] at h2
  simp only [List.length_map] at h2
  have hr0:r=[]:=List.length_eq_zero_iff.1 (by omega)
  subst hr0
  rw [List.append_nil] at hr
  have hl0:l ≠ []:=fun e=>by subst e; simp at hi
  have hl:=(List.dropLast_concat_getLast hl0)
  have hE:candE l 0=candE l.dropLast 0 ++ [(l.getLast hl0,l.length)]:=by
   conv=>lhs; rw [<-hl,candE_snoc]
   rw [List.length_dropLast]
   congr 3
   have:0 < l.length:=by omega
   omega
  rw [hE,<-List.append_assoc] at hr
  have hp:=(List.append_inj' hr rfl).1
  rw [hp,visC_cand,List.dropLast_eq_take,List.take_take,Nat.min_eq_left (by omega)]
def bstE (xs:List Itm) (d:Int × Int):Option ((Int × Int) × Nat)->Chc
 | none=>⟨false,(0,0),[],0⟩
 | some (b,k)=>⟨true,b,txD xs d b,k⟩
def bstI (xs:List Itm) (l:List (Int × Int)) (pre:List Cd) (i:Nat):Chc:=bstE xs (l.getD i (0,0)) (pkO xs (l.getD i (0,0)) (visC pre i))
def bstL (xs:List Itm) (l:List (Int × Int)) (pre:List Cd):List Chc:=(List.range l.length).map (bstI xs l pre)
def mixL (xs:List Itm) (l:List (Int × Int)) (pre:List Cd) (x:Cd) (i:Nat):List Chc:=(List.range l.length).map fun j=>if j < i then bstI xs l (pre ++ [x]) j else bstI xs l pre j
theorem mixL_len {xs:List Itm} {l:List (Int × Int)} {pre:List Cd} {x:Cd} {i:Nat}:(mixL xs l pre x i).length=l.length:=by simp [mixL]
theorem mixL_start (xs:List Itm) (l:List (Int × Int)) (pre:List Cd) (x:Cd):mixL xs l pre x x.2=bstL xs l pre:=by
 unfold mixL bstL
 refine List.map_congr_left (fun j _=>?_)
 by_cases h:j < x.2
 ·rw [if_pos h]
  unfold bstI
  rw [visC_snoc,if_neg (by omega)]
 ·rw [if_neg h]
theorem mixL_end (xs:List Itm) (l:List (Int × Int)) (pre:List Cd) (x:Cd) {i:Nat} (h:l.length<=i):mixL xs l pre x i=bstL xs l (pre ++ [x]):=by
 unfold mixL bstL
 refine List.map_congr_left (fun j hj=>?_)
 rw [if_pos (by have:=List.mem_range.1 hj; omega)]
theorem mixL_get (xs:List Itm) (l:List (Int × Int)) (pre:List Cd) (x:Cd) (i:Nat) {j:Nat} (h:j < (mixL xs l pre x i).length):(mixL xs l pre x i)[j]=if j < i then bstI xs l (pre ++ [x]) j else bstI xs l pre j:=by simp [mixL]
theorem mixL_at (xs:List Itm) (l:List (Int × Int)) (pre:List Cd) (x:Cd) {i:Nat} (h:i < (mixL xs l pre x i).length):(mixL xs l pre x i)[i]=bstI xs l pre i:=by rw [mixL_get,if_neg (by omega)]
theorem mixL_next (xs:List Itm) (l:List (Int × Int)) (pre:List Cd) (x:Cd) {i:Nat}:mixL xs l pre x (i + 1)=(mixL xs l pre x i).set i (bstI xs l (pre ++ [x]) i):=by
 refine List.ext_getElem (by simp [mixL]) (fun j h1 h2=>?_)
 have h3:j < (mixL xs l pre x i).length:=by simpa using h2
 rw [List.getElem_set,mixL_get,mixL_get _ _ _ _ _ h3]
 by_cases e:i=j
 ·subst e; rw [if_pos (by omega),if_pos rfl]
 ·rw [if_neg e]
  by_cases e2:j < i
  ·rw [if_pos (by omega),if_pos e2]
  ·rw [if_neg (by omega),if_neg e2]
theorem bstI_step {xs:List Itm} {l:List (Int × Int)} {pre:List Cd} {c:Int × Int} {f i:Nat} (hf:f<=i):bstI xs l (pre ++ [(c,f)]) i =
  (if (bstI xs l pre i).sm=false\/(txS xs (l.getD i (0,0)) c).length < (bstI xs l pre i).sz then ⟨true,c,txD xs (l.getD i (0,0)) c,(txS xs (l.getD i (0,0)) c).length⟩ else bstI xs l pre i):=by
 unfold bstI
 rw [visC_snoc,if_pos hf]
 unfold pkO
 rw [pickP_snoc]
 cases pickP (fun c=>(txS xs (l.getD i (0,0)) c).length) (visC pre i) none with
 | none=>exact (if_pos (.inl rfl)).symm
 | some p=>
  obtain ⟨b,k⟩:=p
  by_cases h:(txS xs (l.getD i (0,0)) c).length < k
  ·refine Eq.trans ?_ (if_pos (.inr h)).symm
   show bstE xs _ (if _ < k then _ else _)=_
   rw [if_pos h]; rfl
  ·refine Eq.trans ?_ (if_neg (fun e=>e.elim (fun e=>by cases e) h)).symm
   show bstE xs _ (if _ < k then _ else _)=_
   rw [if_neg h]
theorem bstL_nil (xs:List Itm) (l:List (Int × Int)):bstL xs l []=List.replicate l.length ⟨false,(0,0),[],0⟩:=by
 unfold bstL
 refine List.ext_getElem (by simp) (fun j h1 h2=>?_)
 simp [bstI,visC,pkO,pickP,bstE]
def finC (xs:List Itm) (d:Int × Int) (c:Chc):Chc:=if (putX (datD xs d)).length<=c.sz + 16 then { c with sm:=false } else c
def finL (xs:List Itm) (l base:List (Int × Int)):List Chc:=(List.range l.length).map fun i=>finC xs (l.getD i (0,0)) (bstE xs (l.getD i (0,0)) (pkO xs (l.getD i (0,0)) (base ++ l.take i)))
theorem finC_ent (xs:List Itm) (d:Int × Int) (cs:List (Int × Int)):entC xs d (finC xs d (bstE xs d (pkO xs d cs)))=entB xs d (chosen xs d cs):=by
 rw [chosen_prog]
 unfold pkO
 cases pickP (fun c=>(txS xs d c).length) cs none with
 | none=>
  simp only [pickF,bstE]
  unfold entC entB finC
  split <;> simp
 | some p=>
  obtain ⟨b,k⟩:=p
  simp only [pickF,bstE]
  unfold finC
  simp only
  by_cases h:(putX (datD xs d)).length<=k + 16
  ·rw [if_pos h,if_pos h]; unfold entC entB; simp
  ·rw [if_neg h,if_neg h]; unfold entC entB; simp [txS_eq]
theorem body_fin (xs:List Itm) (l base:List (Int × Int)):bodyC xs l (finL xs l base)=packB xs l base:=by
 unfold bodyC packB
 congr 1
 have h:(l.zip (finL xs l base)).map (fun p=>entC xs p.1 p.2)=(List.range l.length).map (entI xs l base):=by
  refine List.ext_getElem (by simp [finL]) (fun j h1 h2=>?_)
  have hj:j < l.length:=by simpa using h2
  simp only [List.getElem_map,List.getElem_zip,List.getElem_range,finL,entI]
  rw [<-finC_ent]
  simp [List.getD,hj]
 rw [List.flatMap_def,List.flatMap_def,h]
theorem pkO_mem {xs:List Itm} {d:Int × Int} {cs:List (Int × Int)} {b:Int × Int} {k:Nat} (h:pkO xs d cs=some (b,k)):b ∈ cs/\k=(txS xs d b).length:=by
 obtain ⟨h1,h2⟩:=pickP_text cs none (fun b k h=>by cases h) b k h
 rcases h2 with h2 | h2
 ·exact ⟨h2,h1⟩
 ·cases h2
theorem ch_set {W:World} {g:Nat} {T:TypeId} {L:List Chc} (h:BK g (gcs chCs L).toArray T W) {i:Nat} (hi:i < L.length) (c:Chc) :
  BK g (gcs chCs (L.set i c)).toArray T (((((W.setCell ⟨g,i * 5,none⟩ (.bool c.sm)).setCell ⟨g,i * 5 + 1,none⟩ (.int .u64 c.b.1)).setCell ⟨g,i * 5 + 2,none⟩ (.int .u64 c.b.2)).setCell ⟨g,i * 5 + 3,none⟩ (.string ⟨c.tx.toArray⟩)).setCell ⟨g,i * 5 + 4,none⟩ (.int .i64 (c.sz:Int))):=by
 have step:∀ {W:World} {L:List Chc} (h:BK g (gcs chCs L).toArray T W) (hi:i < L.length) (j:Nat) (v:Value) (b:Chc),j < 5->chCs b=(chCs L[i]).set j v->BK g (gcs chCs (L.set i b)).toArray T (W.setCell ⟨g,i * 5 + j,none⟩ v):=by
  intro W L h hi j v b hj hb
  have h1:=h.set (i * 5 + j) v
  rw [List.setIfInBounds_toArray,gcs_set layCh L i hi j v b hj hb] at h1
  exact h1
 obtain ⟨o,ho⟩:∃ o,o=L[i]:=⟨_,rfl⟩
 have e0:=step h hi 0 (.bool c.sm) ⟨c.sm,o.b,o.tx,o.sz⟩ (by decide) (by rw [<-ho]; rfl)
 have e1:=step e0 (by simpa using hi) 1 (.int .u64 c.b.1) ⟨c.sm,(c.b.1,o.b.2),o.tx,o.sz⟩ (by decide) (by rw [List.getElem_set_self]; rfl)
 rw [List.set_set] at e1
 have e2:=step e1 (by simpa using hi) 2 (.int .u64 c.b.2) ⟨c.sm,(c.b.1,c.b.2),o.tx,o.sz⟩ (by decide) (by rw [List.getElem_set_self]; rfl)
 rw [List.set_set] at e2
 have e3:=step e2 (by simpa using hi) 3 (.string ⟨c.tx.toArray⟩) ⟨c.sm,(c.b.1,c.b.2),c.tx,o.sz⟩ (by decide) (by rw [List.getElem_set_self]; rfl)
 rw [List.set_set] at e3
 have e4:=step e3 (by simpa using hi) 4 (.int .i64 (c.sz:Int)) ⟨c.sm,(c.b.1,c.b.2),c.tx,c.sz⟩ (by decide) (by rw [List.getElem_set_self]; rfl)
 rw [List.set_set] at e4
 exact e4
end Go.Proofs.YtijkieiihpiljaaGreat
