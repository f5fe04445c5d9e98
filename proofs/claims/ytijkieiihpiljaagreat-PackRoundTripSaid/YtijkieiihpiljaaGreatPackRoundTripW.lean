/- The walk of the statement PackRoundTrip. -/
import Derived.Test.YtijkieiihpiljaaGreatPkLw
import Derived.Test.YtijkieiihpiljaaGreatPkPz
import Derived.Test.YtijkieiihpiljaaGreatPkFu
import Derived.Test.YtijkieiihpiljaaGreatK5
set_option maxRecDepth 100000
set_option maxHeartbeats 16000000
open Go.Lib (hid)
namespace Go.Proofs.YtijkieiihpiljaaGreat.packRoundTrip
open Go.RowKit Go.Shelf
set_option linter.unusedVariables false
theorem keep_len (xs:List Itm) (T:List Dg):(keepS xs T).length<=xs.length:=by unfold keepS; exact List.length_filter_le _ _
theorem keep_poolR {xs:List Itm} {m k:Nat} (hs:SmOk xs m k) {w:World} {a:Option Addr} {c:Nat} (hp:PoolCame w a xs c) (T:List Dg) {kc:Nat} (hk:(keepS xs T).length<=kc):PoolR (keepS xs T) kc:=by
 have hl:=keep_len xs T
 have hx:=hs.len
 exact ⟨asc_filter hs.asc _,fun x hx=>(chkI_parts (hs.chk x (keep_mem.1 hx).1)).1,fun x hx=>(hp.dat x (keep_mem.1 hx).1).1,by omega,fun x hx=>by have:=hs.dat x (keep_mem.1 hx).1; omega,hk⟩
theorem SmOk.poolIn {xs:List Itm} {m k:Nat} (h:SmOk xs m k) {w:World} {a:Option Addr} {c:Nat} (hp:PoolCame w a xs c) {W:World} (hW:Below w.heap.size w W):PoolIn W a xs c:=
 ⟨hp.its.ahead hW,hp.cap.1,by have:=h.len; omega,fun x hx=>by have:=h.dat x hx; omega⟩
structure RtP (xs:List Itm) (l base:List Dg) (T:List UInt8) (e:Int):Prop where
 bad:e ≠ 0->T=[]
 len:T.length<=10000
 unp:e=0->unpackS T (keepS xs base)=(keepS xs (l ++ base),0)
theorem rt_law {xs:List Itm} {l base:List Dg} (h:SmOk xs l.length base.length):RtP xs l base (packS xs l base).1 (packS xs l base).2:=by
 have hle:=pack_len (xs:=xs) (fun x hx=>by have:=h.dat x hx; omega) l base
 have hm:=h.m
 unfold packS at hle ⊢
 by_cases he:packE xs l base=0
 ·rw [if_neg (by simpa using he)] at hle ⊢
  exact ⟨fun h=>absurd rfl h,by omega,fun _=>pack_unpack (pack_good h.asc h.chk (fun x hx=>by have:=h.dat x hx; omega) he)⟩
 ·rw [if_pos he] at hle ⊢
  exact ⟨fun _=>rfl,by simp,fun h=>absurd h he⟩
theorem walk (a:Option Addr) (xs:List Itm) (c:Nat) (la:Option Addr) (l:List (Int × Int)) (lc:Nat) (ba:Option Addr) (base:List (Int × Int)) (bc:Nat) (w:World) (hp:PoolCame w a xs c) (hl:Digs w.heap.size w la l) (hlc:l.length<=lc/\lc<=maxLen) (hlo:∀ d ∈ l,OkD d) (hb:Digs w.heap.size w ba base) (hbc:base.length<=bc/\bc<=maxLen) (hbo:∀ d ∈ base,OkD d) :
  Calls Tryz.prog 7 #[.slice a xs.length c,.slice la l.length lc,.slice ba base.length bc] w fun e w'=>e = .returned (.bool true)/\Below w.heap.size w w':=by
 have HAW:=hid awake10_any
 have HCS:=hid (small2_any hp la ba l.length base.length lc bc (by omega) (by omega))
 obtain ⟨b,hbs⟩:∃ b,b=sm2 xs l.length base.length:=⟨_,rfl⟩
 rw [<-hbs] at HCS
 cases b with
 | false=>
  clear hbs hl hb hlo hbo hp
  generalize xs.length=n at HCS ⊢
  generalize l.length=m at hlc HCS ⊢
  generalize base.length=k at hbc HCS ⊢
  clear hlc hbc
  go_enter Tryz.func7,Tryz.ntmps7
  go_wp2_with fail
  (with_reducible refine (HCS.out).mono ?_)
  rintro e u ⟨rfl,hb⟩
  have HB1:=hid hb
  have HC:=hid (HAW.out u)
  clear hb
  go_wp2_with fail
  (with_reducible refine (HC.out).mono ?_)
  rintro e u2 ⟨rfl,hb⟩
  have HB2:=hid (HB1.out.trans (hb.mono HB1.out.size))
  clear hb HC
  go_wp2_with fail
  go_ret
  exact ⟨rfl,HB2.out⟩
 | true=>
  have hsm:=sm2_ok hbs.symm
  have HSM:=hid hsm
  have HP1:=hid (fun W (hW:Below w.heap.size w W)=>pack_any (lc:=lc) (bc:=bc) (hsm.pool hp) (hp.its.ahead hW) (hl.ahead hW) (hb.ahead hW) hlo hbo (by have:=hsm.m; omega) (by have:=hsm.k; omega))
  have HKB:=hid (fun W (hW:Below w.heap.size w W)=>keep_any a xs c ba base bc W (SmOk.poolIn hsm hp hW) (hb.ahead hW) hbo (fun x hx=>(hp.dat x hx).1) (by have:=hsm.k; omega))
  have HKQ:=hid (fun W qa qc (hW:Below w.heap.size w W) (hq:Digs W.heap.size W qa (l ++ base))=>keep_any a xs c qa (l ++ base) qc W (SmOk.poolIn hsm hp hW) hq (fun d hd=>(List.mem_append.1 hd).elim (hlo d) (hbo d)) (fun x hx=>(hp.dat x hx).1) (by have:=hsm.m; have:=hsm.k; rw [List.length_append]; omega))
  have HUN:=hid (fun T W ka kc (hT:(List.length T:Int)<=70368744177664) (hi:Its W.heap.size W ka (keepS xs base)) (hc:(keepS xs base).length<=kc)=>punpack_any T (keepS xs base) ka kc W hT hi (keep_poolR hsm hp base hc) (by have:=keep_len xs base; have:=hsm.len; omega))
  have HLW:=hid (rt_law hsm)
  have HDL:Hid (∀ W,Below w.heap.size w W->Digs W.heap.size W la l/\Digs W.heap.size W ba base):=hid (fun W hW=>⟨hl.ahead hW,hb.ahead hW⟩)
  have HQL:Hid ((keepS xs (l ++ base)).length<=40/\(keepS xs base).length<=40):=hid ⟨by have:=keep_len xs (l ++ base); have:=hsm.len; omega,by have:=keep_len xs base; have:=hsm.len; omega⟩
  generalize packS xs l base=R1 at HP1 HLW
  obtain ⟨T,e1⟩:=R1
  simp only at HP1 HLW
  have hm8:=hsm.m
  have hk8:=hsm.k
  have HLL:Hid (l.length<=8/\base.length<=8):=hid ⟨hm8,hk8⟩
  clear hbs hl hb hlo hbo hp hsm HSM hlc hbc hm8 hk8
  obtain ⟨n,hn⟩:∃ n,n=xs.length:=⟨_,rfl⟩
  obtain ⟨m,hm⟩:∃ n,n=l.length:=⟨_,rfl⟩
  obtain ⟨k,hk⟩:∃ n,n=base.length:=⟨_,rfl⟩
  rw [<-hn,<-hm,<-hk] at HCS HP1
  rw [<-hn] at HKQ
  rw [<-hn,<-hk] at HKB
  rw [<-hn,<-hm,<-hk]
  have HNM:=hid hm
  have HNK:=hid hk
  clear hn hm hk
  obtain ⟨QB,hQB⟩:∃ QB,QB=keepS xs base:=⟨_,rfl⟩
  obtain ⟨QA,hQA⟩:∃ QA,QA=keepS xs (l ++ base):=⟨_,rfl⟩
  rw [<-hQB] at HKB HUN HQL
  rw [<-hQA] at HKQ HQL
  have HUL:Hid (e1=0->unpackS T QB=(QA,0)):=hid (by rw [hQB,hQA]; exact HLW.out.unp)
  have HBD:Hid (e1 ≠ 0->T=[]):=hid HLW.out.bad
  have HTL:Hid ((T.length:Int)<=70368744177664):=hid (by have:=HLW.out.len; omega)
  clear hQA hQB HLW
  go_enter Tryz.func7,Tryz.ntmps7
  go_wp2_with fail
  (with_reducible refine (HCS.out).mono ?_)
  rintro e u ⟨rfl,hb⟩
  have HB1:=hid hb
  have HC:=hid (HP1.out u hb)
  clear hb HCS HP1
  go_wp2_with fail
  (with_reducible refine (HC.out).mono ?_)
  rintro e v ⟨rfl,hb⟩
  have HB2:=hid (HB1.out.trans (hb.mono HB1.out.size))
  clear hb HC HB1
  by_cases h0:e1=0
  ·subst h0
   have HC:=hid (HKB.out v HB2.out)
   unfold GotP at HC
   clear HKB HBD
   obtain ⟨nb,hnb⟩:∃ nb,nb=QB.length:=⟨_,rfl⟩
   rw [<-hnb] at HC HUN
   have HNB:=hid hnb
   clear hnb
   go_wp2_with fail
   (with_reducible refine (HC.out).mono ?_)
   rintro e v1 ⟨ka,kc,rfl,hi,hc,_,hb⟩
   have HB3:=hid (HB2.out.trans (hb.mono HB2.out.size))
   have HC:=hid (HUN.out T v1 ka kc HTL.out hi (by rw [HNB.out]; exact hc))
   rw [HUL.out (by first | rfl | trivial)] at HC
   unfold GotPE at HC
   simp only at HC
   obtain ⟨nq,hnq⟩:∃ nq,nq=QA.length:=⟨_,rfl⟩
   rw [<-hnq] at HC
   have HNQ:=hid hnq
   clear hb hi hc HUN HUL HB2 hnq
   go_wp2_with fail
   (with_reducible refine (HC.out).mono ?_)
   rintro e u3 ⟨qa,qc,rfl,hits,hqc,_,hb⟩
   have HB4:=hid (HB3.out.trans (hb.mono HB3.out.size))
   have HQI:=hid hits
   clear hits hqc hb HC HB3
   obtain ⟨w4,hw4⟩:∃ w4,w4=u3.alloc (.cells #[] 41):=⟨_,rfl⟩
   have hb4:Below u3.heap.size u3 w4:=by rw [hw4]; exact (Below.refl _ _).alloc (Nat.le_refl _) _
   have hoe:w4.ownsRow u3.heap.size 41 2 (.slice (some ⟨u3.heap.size,0,none⟩) 0 0) 0 []:=by rw [hw4]; exact World.ownsRow_made (size:=2) u3 #[] 0 (Nat.le_refl _) (by decide) rfl
   obtain ⟨v1,W5,hr1,hown1,hg1,_⟩:=append_digs w4 u3.heap.size 24 _ [] hoe la l lc (HDL.out _ (HB4.out.trans (hb4.mono HB4.out.size))).1 (by have:=HLL.out; simp; omega) hb4.size
   have hb5:Below u3.heap.size u3 W5:=below_own hb4 hoe hg1 (Nat.le_refl _)
   obtain ⟨v2,W6,hr2,hown2,hg2,_⟩:=append_digs W5 u3.heap.size 24 v1 _ hown1 ba base bc (HDL.out _ (HB4.out.trans (hb5.mono HB4.out.size))).2 (by have:=HLL.out; simp; omega) hb5.size
   have hb6:Below u3.heap.size u3 W6:=below_own hb5 hown1 hg2 (Nat.le_refl _)
   rw [List.nil_append] at hown2
   obtain ⟨ga,gc,rfl,_⟩:=ownsRow_sliceN hown2
   have HB6:=hid (HB4.out.trans (hb6.mono HB4.out.size))
   have HC:=hid (HKQ.out W6 ga gc HB6.out (own_digs rfl hown2))
   unfold GotP at HC
   rw [<-HNQ.out] at HC
   have HQ6:=hid (HQI.out.ahead hb6)
   rw [<-HNM.out,hw4] at hr1
   rw [<-HNK.out] at hr2
   have HR1:=hid hr1
   have HR2:=hid hr2
   clear hw4 hb4 hoe hown1 hg1 hown2 hg2 hb5 hb6 hr1 hr2 HKQ HB4 HQI
   generalize (l ++ base).length=ng at HC HR2
   have tok1:True:=trivial
   go_wp2_with (at_builtin; first | (have _t:=tok1; refine wpList_append_want _ (by rfl) _ _ _ _ rfl _ _ rfl rfl _ _ HR1.out ?_; clear _t tok1) | (refine wpList_append_want _ (by rfl) _ _ _ _ rfl _ _ rfl rfl _ _ HR2.out ?_))
   (with_reducible refine (HC.out).mono ?_)
   rintro e u7 ⟨ta,tc,rfl,hi,_,_,hb⟩
   have HB7:=hid (HB6.out.trans (hb.mono HB6.out.size))
   have HQ7:=hid (HQ6.out.ahead hb)
   have HSM:=hid (same_any qa ta QA QA qc tc u7 HQ7.out hi (by have:=HQL.out.1; omega) (by have:=HQL.out.1; omega))
   rw [decide_eq_true rfl] at HSM
   rw [<-HNQ.out] at HSM
   clear hi hb HC HB6 HQ6 HR1 HR2
   go_wp2_with fail
   (with_reducible refine (HSM.out).mono ?_)
   rintro e u8 ⟨rfl,hb⟩
   have HB8:=hid (HB7.out.trans (hb.mono HB7.out.size))
   have HC:=hid (HAW.out u8)
   clear hb HSM HB7 HQ7
   go_wp2_with fail
   (with_reducible refine (HC.out).mono ?_)
   rintro e u9 ⟨rfl,hb⟩
   have HB9:=hid (HB8.out.trans (hb.mono HB8.out.size))
   clear hb HC
   go_wp2_with fail
   go_ret
   exact ⟨rfl,HB9.out⟩
  ·have hbq:(e1 != 0)=true:=by simpa using h0
   obtain rfl:T=[]:=HBD.out h0
   have HC:=hid (HAW.out v)
   clear h0 HUL HBD HTL HUN HKB HKQ
   go_wp2_with fail
   (with_reducible refine (HC.out).mono ?_)
   rintro e u2 ⟨rfl,hb⟩
   have HB3:=hid (HB2.out.trans (hb.mono HB2.out.size))
   clear hb HC
   go_wp2_with fail
   go_ret
   exact ⟨rfl,HB3.out⟩
end Go.Proofs.YtijkieiihpiljaaGreat.packRoundTrip
