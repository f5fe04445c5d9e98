/- awake: the example of the chapter. -/
import Derived.Test.YtfdahmicigpnoaaGreatNeCm
import Derived.Test.YtfdahmicigpnoaaGreatNeSt
import Derived.Test.YtfdahmicigpnoaaGreatNeBg
import Derived.Test.YtfdahmicigpnoaaGreatNeAk
import Derived.Test.YtfdahmicigpnoaaGreatNeLe
import Derived.Test.YtfdahmicigpnoaaGreatNeAn
import Derived.Test.YtfdahmicigpnoaaGreatNeSe
set_option maxRecDepth 100000
set_option maxHeartbeats 16000000
open Go.Lib (hid)
namespace Go.Proofs.YtfdahmicigpnoaaGreat
open Go.RowKit Go.Shelf Go.Sort
set_option linter.unusedVariables false
structure NxAll (A B C:Int × Int) (P1 P Q:List Itm):Prop where
 oA:OkD A
 oB:OkD B
 oC:OkD C
 c1:com15 [] 1 []=(P1,A)
 cq:com15 P1 3 [A]=(Q,C)
 cp:com15 P1 2 [A]=(P,B)
 a1:Asc P1
 ap:Asc P
 aq:Asc Q
 d1:∀ x ∈ P1,(x.data.length:Int)<=65536
 dp:∀ x ∈ P,(x.data.length:Int)<=65536
 dq:∀ x ∈ Q,(x.data.length:Int)<=65536
 l1:P1.length<=2
 lp:P.length<=4
 lq:Q.length<=4
 cyp:AcyS P
 cyq:AcyS Q
 t:NxT A B C P Q
theorem nx_all:∃ A B C P1 P Q,NxAll A B C P1 P Q:=by
 obtain ⟨P1,P,Q,h⟩:=nxC_of nxV
 exact ⟨nxA,nxB,nxC,P1,P,Q,nxV.oA,nxV.oB,nxV.oC,h.c1,h.cq,h.cp,h.a1,h.qp.asc,h.qq.asc,h.d1,h.dp,h.dq,h.l1,h.lp,h.lq,h.qp.acy,h.qq.acy,NxC.talk nxV h⟩
theorem awake15_any (w:World):Calls Tryz.prog 33 #[] w fun e w'=>e = .returned (.bool true)/\Below w.heap.size w w':=by
 obtain ⟨⟨A1,A2⟩,⟨B1,B2⟩,⟨C1,C2⟩,P1,P,Q,hx⟩:=nx_all
 have lp1:=hx.l1
 have lp2:=hx.lp
 have lp3:=hx.lq
 have hA:=hx.oA
 have hB:=hx.oB
 have hC:=hx.oC
 have tb0:TkB (⟨[(C1,C2)],[(B1,B2),(A1,A2)],[],[],false⟩:Tk):=⟨by simp,by simp,by simp,by simp,by simp; exact hC,by simp; exact ⟨hB,hA⟩,by simp,by simp⟩
 have tb1:TkB (⟨[(C1,C2)],[(A1,A2)],[(B1,B2)],[],false⟩:Tk):=⟨by simp,by simp,by simp,by simp,by simp; exact hC,by simp; exact hA,by simp; exact hB,by simp⟩
 have tb2:TkB (⟨[(C1,C2)],[(A1,A2)],[],[],false⟩:Tk):=⟨by simp,by simp,by simp,by simp,by simp; exact hC,by simp; exact hA,by simp,by simp⟩
 have tb3:TkB (⟨[(C1,C2)],[],[(A1,A2)],[],false⟩:Tk):=⟨by simp,by simp,by simp,by simp,by simp; exact hC,by simp,by simp; exact hA,by simp⟩
 have hpin:∀ {W:World} {a:Option Addr} {c:Nat},Its W.heap.size W a P->P.length<=c->PoolIn W a P c:=fun h1 h2=>⟨h1,h2,by omega,fun x hx2=>by have:=hx.dp x hx2; omega⟩
 have hqin:∀ {W:World} {a:Option Addr} {c:Nat},Its W.heap.size W a Q->Q.length<=c->PoolIn W a Q c:=fun h1 h2=>⟨h1,h2,by omega,fun x hx2=>by have:=hx.dq x hx2; omega⟩
 have HP1:=hid (fun W=>commit15_any none [] 0 1 none [] 0 W (Its.nil _ _ _) (Nat.le_refl _) (fun i j hi=>by simp at hi) (by simp) (by simp) (Digs.nil _ _ _) (Nat.le_refl _) (by simp) (by simp))
 rw [hx.c1] at HP1
 have HP3:=hid (fun W a c b (hi:Its W.heap.size W a P1) (hc:P1.length<=c) (hk:BK b #[.int .u64 A1,.int .u64 A2] 41 W)=>commit15_any a P1 c 3 (some ⟨b,0,none⟩) [(A1,A2)] 1 W hi hc hx.a1 (by omega) hx.d1 (digs_one hk) (Nat.le_refl _) (by simp) (by simp; exact hA))
 rw [hx.cq] at HP3
 have HP2:=hid (fun W a c b (hi:Its W.heap.size W a P1) (hc:P1.length<=c) (hk:BK b #[.int .u64 A1,.int .u64 A2] 41 W)=>commit15_any a P1 c 2 (some ⟨b,0,none⟩) [(A1,A2)] 1 W hi hc hx.a1 (by omega) hx.d1 (digs_one hk) (Nat.le_refl _) (by simp) (by simp; exact hA))
 rw [hx.cp] at HP2
 have HBG:=hid (fun W a c b b' (hi:Its W.heap.size W a P) (hc:P.length<=c) (hk:BK b #[.int .u64 B1,.int .u64 B2] 41 W) (hk':BK b' #[.int .u64 C1,.int .u64 C2] 41 W)=>begin_any a P c (some ⟨b,0,none⟩) [(B1,B2)] 1 (some ⟨b',0,none⟩) [(C1,C2)] 1 W (hpin hi hc) hx.ap hx.cyp (by omega) (digs_one hk) (by simp; exact hB) (by simp) (digs_one hk') (by simp))
 rw [hx.t.b0] at HBG
 have HK0:=hid (fun W a c X (hi:Its W.heap.size W a P) (hc:P.length<=c) (ht:TkIn W (⟨[(C1,C2)],[(B1,B2),(A1,A2)],[],[],false⟩:Tk) X)=>ask_any a P c (⟨[(C1,C2)],[(B1,B2),(A1,A2)],[],[],false⟩:Tk) X 1 true W (hpin hi hc) hx.ap hx.cyp (by omega) ht tb0 ⟨fun _=>hx.t.v0,fun _=>rfl⟩)
 rw [hx.t.k0] at HK0
 have HW0:=hid (fun W a c la lc (hi:Its W.heap.size W a Q) (hc:Q.length<=c) (hl:Digs W.heap.size W la [(B1,B2)])=>(answer_any a Q c la [(B1,B2)] lc W (hqin hi hc) hx.aq hx.cyq (by omega) hl (by simp; exact hB) (by simp)).mono (R':=fun e w'=>e = .returned (.slice none 0 0)/\Below W.heap.size W w') (fun e w' h=>by rw [hx.t.w0] at h; exact ⟨h.2 rfl,by obtain ⟨⟨_,_,_,_,hb⟩,_⟩:=h; exact hb⟩))
 have HN1:=hid (fun W a c X (hi:Its W.heap.size W a P) (hc:P.length<=c) (ht:TkIn W (⟨[(C1,C2)],[(A1,A2)],[(B1,B2)],[],false⟩:Tk) X)=>learn_any a P c (⟨[(C1,C2)],[(A1,A2)],[(B1,B2)],[],false⟩:Tk) X none [] 0 true W (hpin hi hc) hx.ap hx.cyp (by omega) ht tb1 ⟨fun _=>hx.t.v1,fun _=>rfl⟩ (Digs.nil _ _ _) (by simp) (by simp) (by have:=fold_len ([] ++ []) []; simp only [allS]; simp))
 rw [hx.t.n1] at HN1
 have HK2:=hid (fun W a c X (hi:Its W.heap.size W a P) (hc:P.length<=c) (ht:TkIn W (⟨[(C1,C2)],[(A1,A2)],[],[],false⟩:Tk) X)=>ask_any a P c (⟨[(C1,C2)],[(A1,A2)],[],[],false⟩:Tk) X 1 true W (hpin hi hc) hx.ap hx.cyp (by omega) ht tb2 ⟨fun _=>hx.t.v2,fun _=>rfl⟩)
 rw [hx.t.k2] at HK2
 have HW2:=hid (fun W a c la lc (hi:Its W.heap.size W a Q) (hc:Q.length<=c) (hl:Digs W.heap.size W la [(A1,A2)])=>(answer_any a Q c la [(A1,A2)] lc W (hqin hi hc) hx.aq hx.cyq (by omega) hl (by simp; exact hA) (by simp)).mono (R':=GotDs W [(A1,A2)]) (fun e w' h=>by rw [hx.t.w2] at h; exact h.1))
 have HN3:=hid (fun W a c X la lc (hi:Its W.heap.size W a P) (hc:P.length<=c) (ht:TkIn W (⟨[(C1,C2)],[],[(A1,A2)],[],false⟩:Tk) X) (hl:Digs W.heap.size W la [(A1,A2)])=>learn_any a P c (⟨[(C1,C2)],[],[(A1,A2)],[],false⟩:Tk) X la [(A1,A2)] lc true W (hpin hi hc) hx.ap hx.cyp (by omega) ht tb3 ⟨fun _=>hx.t.v3,fun _=>rfl⟩ hl (by simp; exact hA) (by simp) (by have:=fold_len ([] ++ [(A1,A2)]) []; simp only [allS,List.nil_append,List.length_nil,List.length_cons] at this ⊢; omega))
 rw [hx.t.n3] at HN3
 have HSN:=hid (fun W a c wa wc ca cc (hi:Its W.heap.size W a Q) (hc:Q.length<=c) (hw:Digs W.heap.size W wa [(C1,C2)]) (hl:Digs W.heap.size W ca [(A1,A2)])=>send_any a Q c wa [(C1,C2)] wc ca [(A1,A2)] cc W (hqin hi hc) hx.aq (by omega) hw (by simp; exact hC) (by simp) hl (by simp; exact hA) (by simp))
 rw [hx.t.s4] at HSN
 have HLP:Hid (P1.length<=2):=hid lp1
 clear hx lp1 lp2 lp3 hA hB hC tb0 tb1 tb2 tb3 hpin hqin
 simp only [List.length_nil,List.length_cons,Nat.zero_add,Nat.reduceAdd,Tk.val,Tk.arr] at HP1 HP3 HP2 HBG HK0 HW0 HN1 HK2 HW2 HN3 HSN
 go_enter Tryz.func33,Tryz.ntmps33
 go_wp2_with fail
 (with_reducible refine ((HP1.out _)).mono ?_)
 rintro e u1 ⟨a1,c1,rfl,hits,hcap,hb⟩
 simp only at hits hcap ⊢
 have HE1:=hid hb
 obtain ⟨bA,hbA⟩:∃ b,b=u1.heap.size:=⟨_,rfl⟩
 obtain ⟨v1,hv1⟩:∃ v1,v1=(u1.alloc (.cells #[.int .u64 A1,.int .u64 A2] 41)).alloc (.cells #[.int .u64 A1,.int .u64 A2] 41):=⟨_,rfl⟩
 have hbv:Below u1.heap.size u1 v1:=by rw [hv1]; exact ((Below.refl _ _).alloc (Nat.le_refl _) _).alloc (by simp) _
 have HA1:Hid (BK bA #[.int .u64 A1,.int .u64 A2] 41 v1):=hid (by rw [hv1,hbA]; exact (BK.new _ _ _).alloc _)
 have HP11:=hid (hits.ahead hbv)
 have HC:=hid (HP3.out v1 a1 c1 (u1.heap.size + 1) HP11.out hcap (by rw [hv1]; exact BK.new2 _ _ _ _))
 have HE2:=hid (HE1.out.trans (hbv.mono HE1.out.size))
 have hz1:bA < v1.heap.size:=HA1.out.lt
 have hzw:w.heap.size<=bA:=by rw [hbA]; exact hb.size
 rw [hv1] at HC
 have HV:=hid hv1
 have HBA:=hid hbA
 clear hbA
 have HCP:Hid (P1.length<=c1):=hid hcap
 clear hits hcap hb hbv hv1 HP1 HP3 HE1
 generalize P1.length=n1 at HC HCP HLP HP2 ⊢
 go_wp2_with fail
 (with_reducible refine (HC.out).mono ?_)
 rintro e u2 ⟨a2,c2,rfl,hits,hcap,hb⟩
 rw [<-HV.out] at hb
 rw [<-HBA.out]
 simp only at hits hcap ⊢
 have HA2:=hid (HA1.out.below hb)
 have HE3:=hid (HE2.out.trans (hb.mono HE2.out.size))
 have HP12:=hid (HP11.out.ahead hb)
 obtain ⟨bC,hbC⟩:∃ b,b=u2.heap.size:=⟨_,rfl⟩
 obtain ⟨v2,hv2⟩:∃ v2,v2=(u2.alloc (.cells #[.int .u64 C1,.int .u64 C2] 41)).alloc (.cells #[.int .u64 A1,.int .u64 A2] 41):=⟨_,rfl⟩
 have hbv:Below u2.heap.size u2 v2:=by rw [hv2]; exact ((Below.refl _ _).alloc (Nat.le_refl _) _).alloc (by simp) _
 have HC2:Hid (BK bC #[.int .u64 C1,.int .u64 C2] 41 v2):=hid (by rw [hv2,hbC]; exact (BK.new _ _ _).alloc _)
 have HA3:=hid (HA2.out.below hbv)
 have HP13:=hid (HP12.out.ahead hbv)
 have HQ3:=hid (hits.ahead hbv)
 have HCQ:Hid (Q.length<=c2):=hid hcap
 have HC:=hid (HP2.out v2 a1 c1 (u2.heap.size + 1) HP13.out HCP.out (by rw [hv2]; exact BK.new2 _ _ _ _))
 have HE4:=hid (HE3.out.trans (hbv.mono HE3.out.size))
 have hzA:bA < bC:=by rw [hbC]; exact HA2.out.lt
 have hz2:bC < v2.heap.size:=HC2.out.lt
 rw [hv2] at HC
 have HV2:=hid hv2
 have HBC:=hid hbC
 clear hbC
 obtain ⟨k0,k1⟩:=BK.c2 (show BK _ #[.int .u64 A1,.int .u64 A2] _ _ from HA2.out)
 have k0a:=fun o=>cell_a1 k0 o
 have k1a:=fun o=>cell_a1 k1 o
 clear hits hcap hb hbv hv2 HV HP2 HE2 HE3 HA1 HP11 HP12 hz1
 generalize Q.length=nq at HCQ HW0 HW2 HSN ⊢
 go_wp2_with fail
 (with_reducible refine (HC.out).mono ?_)
 rintro e u3 ⟨a3,c3,rfl,hits,hcap,hb⟩
 rw [<-HV2.out] at hb
 rw [<-HBC.out]
 simp only at hits hcap ⊢
 have HA4:=hid (HA3.out.below hb)
 have HC4:=hid (HC2.out.below hb)
 have HQ4:=hid (HQ3.out.ahead hb)
 have HE5:=hid (HE4.out.trans (hb.mono HE4.out.size))
 obtain ⟨bB,hbB⟩:∃ b,b=u3.heap.size:=⟨_,rfl⟩
 obtain ⟨v3,hv3⟩:∃ v3,v3=((u3.alloc (.cells #[.int .u64 B1,.int .u64 B2] 41)).alloc (.cells #[.int .u64 B1,.int .u64 B2] 41)).alloc (.cells #[.int .u64 C1,.int .u64 C2] 41):=⟨_,rfl⟩
 have hbv:Below u3.heap.size u3 v3:=by rw [hv3]; exact (((Below.refl _ _).alloc (Nat.le_refl _) _).alloc (by simp) _).alloc (by simp; omega) _
 have HB5:Hid (BK bB #[.int .u64 B1,.int .u64 B2] 41 v3):=hid (by rw [hv3,hbB]; exact ((BK.new _ _ _).alloc _).alloc _)
 have HA5:=hid (HA4.out.below hbv)
 have HC5:=hid (HC4.out.below hbv)
 have HQ5:=hid (HQ4.out.ahead hbv)
 have HP5:=hid (hits.ahead hbv)
 have HCP3:Hid (P.length<=c3):=hid hcap
 have hk3:BK (u3.heap.size + 2) #[.int .u64 C1,.int .u64 C2] 41 v3:=by
  rw [hv3]
  have h1:=BK.new2 (u3.alloc (.cells #[.int .u64 B1,.int .u64 B2] 41)) (.cells #[.int .u64 B1,.int .u64 B2] 41) #[.int .u64 C1,.int .u64 C2] 41
  rwa [World.size_alloc] at h1
 have HC:=hid (HBG.out v3 a3 c3 (u3.heap.size + 1) (u3.heap.size + 2) HP5.out hcap (by rw [hv3]; exact (BK.new2 _ _ _ _).alloc _) hk3)
 have HE6:=hid (HE5.out.trans (hbv.mono HE5.out.size))
 have hzC:bC < bB:=by rw [hbB]; exact HC4.out.lt
 rw [hv3] at HC
 have HV3:=hid hv3
 have HBB:=hid hbB
 clear hbB
 obtain ⟨k0,k1⟩:=BK.c2 (show BK _ #[.int .u64 C1,.int .u64 C2] _ _ from HC4.out)
 have k0b:=fun o=>cell_a1 k0 o
 have k1b:=fun o=>cell_a1 k1 o
 have k0c:=fun o o'=>cell_a1 (cell_a1 k0 o) o'
 have k1c:=fun o o'=>cell_a1 (cell_a1 k1 o) o'
 clear hits hcap hb hbv hv3 hk3 HV2 HBG HE4 HE5 HA2 HA3 HC2 HQ3 HP13 HA4 HC4 HQ4 k0a k1a hz2 HCP HLP
 generalize P.length=np at HCP3 HC HK0 HN1 HK2 HN3 ⊢
 go_wp2_with fail
 (with_reducible refine (HC.out).mono ?_)
 rintro e u4 ⟨X0,rfl,hin,hb,_⟩
 rw [<-HV3.out] at hb
 rw [<-HBB.out]
 obtain ⟨wa0,wc0,qa0,qc0,aa0,ac0,ca0,cc0⟩:=X0
 have HI4:=hid hin
 have HA6:=hid (HA5.out.below hb)
 have HB6:=hid (HB5.out.below hb)
 have HC6:=hid (HC5.out.below hb)
 have HQ6:=hid (HQ5.out.ahead hb)
 have HP6:=hid (HP5.out.ahead hb)
 have HE7:=hid (HE6.out.trans (hb.mono HE6.out.size))
 obtain ⟨tb,htb⟩:∃ b,b=u4.heap.size:=⟨_,rfl⟩
 obtain ⟨v4,hv4⟩:∃ v4,v4=u4.alloc (.cells #[.slice wa0 1 wc0,.slice qa0 2 qc0,.slice aa0 0 ac0,.slice ca0 0 cc0,.bool false] 67):=⟨_,rfl⟩
 have hbv:Below u4.heap.size u4 v4:=by rw [hv4]; exact (Below.refl _ _).alloc (Nat.le_refl _) _
 have HT7:Hid (BK tb #[.slice wa0 1 wc0,.slice qa0 2 qc0,.slice aa0 0 ac0,.slice ca0 0 cc0,.bool false] 67 v4):=hid (by rw [hv4,htb]; exact BK.new _ _ _)
 have HI7:=hid (HI4.out.ahead hbv)
 have HA7:=hid (HA6.out.below hbv)
 have HB7:=hid (HB6.out.below hbv)
 have HC7:=hid (HC6.out.below hbv)
 have HQ7:=hid (HQ6.out.ahead hbv)
 have HP7:=hid (HP6.out.ahead hbv)
 have HE8:=hid (HE7.out.trans (hbv.mono HE7.out.size))
 have hzB:bB < tb:=by rw [htb]; exact HB6.out.lt
 have HC:=hid (HK0.out v4 a3 c3 _ HP7.out HCP3.out HI7.out)
 simp only at HC
 rw [hv4] at HC
 have HV4:=hid hv4
 have HTBB:=hid htb
 clear htb
 simp only [Tk.val,Tk.arr,List.length_nil,List.length_cons,Nat.zero_add,Nat.reduceAdd]
 clear hin hb hbv hv4 HV3 HK0 HE6 HE7 HA5 HB5 HC5 HQ5 HP5 HA6 HB6 HC6 HQ6 HP6 HI4 k0 k1 k0b k1b k0c k1c
 go_wp2_with fail
 (with_reducible refine (HC.out).mono ?_)
 rintro e u5 ⟨X1,la,lc,rfl,hin,hdg,hlc,hb,_⟩
 rw [<-HV4.out] at hb
 rw [<-HTBB.out]
 obtain ⟨wa1,wc1,qa1,qc1,aa1,ac1,ca1,cc1⟩:=X1
 simp only [Tk.val,Tk.arr,List.length_cons,List.length_nil,Nat.zero_add] at hdg hlc ⊢
 obtain ⟨b5,o5,haa,hb5,_,_⟩:=hdg 0 (by simp)
 subst haa
 have HI5:=hid hin
 have HL5:Hid (Digs u5.heap.size u5 (some ⟨b5,o5,none⟩) [(B1,B2)]):=hid hdg
 have HT5:=hid (HT7.out.below hb)
 have HA5:=hid (HA7.out.below hb)
 have HB5:=hid (HB7.out.below hb)
 have HC5:=hid (HC7.out.below hb)
 have HQ5:=hid (HQ7.out.ahead hb)
 have HP5:=hid (HP7.out.ahead hb)
 have HE5:=hid (HE8.out.trans (hb.mono HE8.out.size))
 have HNI:Hid (NoInt #[.slice wa0 1 wc0,.slice qa0 2 qc0,.slice aa0 0 ac0,.slice ca0 0 cc0,.bool false]):=hid (noint_tk (⟨[(C1,C2)],[(B1,B2),(A1,A2)],[],[],false⟩:Tk) (⟨wa0,wc0,qa0,qc0,aa0,ac0,ca0,cc0⟩:TkA))
 obtain ⟨f0,f1,f2,f3,f4⟩:=BK.c5 (show BK _ #[.slice wa0 1 wc0,.slice qa0 2 qc0,.slice aa0 0 ac0,.slice ca0 0 cc0,.bool false] _ _ from HT5.out)
 obtain ⟨ff0,ff1,ff2,ff3,ff4⟩:=BK.f5 (HT5.out)
 obtain ⟨x5,hx5⟩:∃ x5,x5=((((u5.setCell ⟨tb,0,none⟩ (.slice wa1 1 wc1)).setCell ⟨tb,1,none⟩ (.slice qa1 1 qc1)).setCell ⟨tb,2,none⟩ (.slice aa1 1 ac1)).setCell ⟨tb,3,none⟩ (.slice ca1 0 cc1)).setCell ⟨tb,4,none⟩ (.bool false):=⟨_,rfl⟩
 have hg5:u5.grownBy x5 (some tb):=by rw [hx5]; exact gown (gown (gown (gown (gset _ _ _ _) _ _) _ _) _ _) _ _
 have HT6:Hid (BK tb #[.slice wa1 1 wc1,.slice qa1 1 qc1,.slice aa1 1 ac1,.slice ca1 0 cc1,.bool false] 67 x5):=hid (by rw [hx5]; exact ((((HT5.out.set 0 _).set 1 _).set 2 _).set 3 _).set 4 _)
 have HI6:=hid (HI5.out.store HT5.out HNI.out hg5)
 have HL6:=hid (digs_store HL5.out HT5.out HNI.out hg5)
 have HA6:=hid (HA5.out.grow1 hg5 (by omega))
 have HB6:=hid (HB5.out.grow1 hg5 (by omega))
 have HC6:=hid (HC5.out.grow1 hg5 (by omega))
 have HQ6:=hid (its_store HQ5.out HT5.out HNI.out hg5)
 have HP6:=hid (its_store HP5.out HT5.out HNI.out hg5)
 have HE6:=hid (HE5.out.grown hg5 HE5.out.size (fun k e=>by cases e; omega))
 have HX5:=hid hx5
 clear hin hdg hlc hb hb5 hx5 hg5 HC HV4 HI7 HT7 HA7 HB7 HC7 HQ7 HP7 HE8 HI5 HL5 HT5 HA5 HB5 HC5 HQ5 HP5 HE5 HNI
 go_upto_region 6 with (fail)
 rw [<-HX5.out]
 clear f0 f1 f2 f3 f4 ff0 ff1 ff2 ff3 ff4 HX5
 obtain ⟨_,_,haa,hb5,q0,q1⟩:=HL6.out 0 (by simp)
 cases haa
 simp only [List.getElem_cons_zero,Nat.zero_mul,Nat.add_zero] at q0 q1
 obtain ⟨e0,e1⟩:=BK.c2 (show BK _ #[.int .u64 B1,.int .u64 B2] _ _ from HB6.out)
 have HWR:=hid (fun W (hW:Below x5.heap.size x5 W)=>HW0.out W a2 c2 (some ⟨b5,o5,none⟩) lc (HQ6.out.ahead hW) HCQ.out (HL6.out.ahead hW))
 have HRS:=hid (fun d os=>Calls.regrown_of (w:=x5) (d:=d) (os:=os) (HWR.out _ (below_regrown x5 d os)))
 have qn:=fun W=>neq_dig B1 B2 B1 B2 W
 simp only [BEq.rfl,Bool.and_self,Bool.not_true] at qn
 have rq0:=cell_regrown q0
 have rq1:=cell_regrown q1
 have re0:=cell_regrown e0
 have re1:=cell_regrown e1
 clear HWR HW0 HC hb5
 refine wp_region_quiet_below (by kernel_rfl) (by kernel_rfl) ?_
 repeat (any_goals (first | go_big_quiet_step (first | (with_reducible exact HRS.out _ _)) | quiet_step (first | (with_reducible exact HRS.out _ _))))
 refine wpQuiet_nil ?_
 intro w6 hw6
 have hb6:=below_rg hw6
 have HI7:=hid (HI6.out.ahead hb6)
 have HT7:=hid (HT6.out.below hb6)
 have HA7:=hid (HA6.out.below hb6)
 have HB7:=hid (HB6.out.below hb6)
 have HC7:=hid (HC6.out.below hb6)
 have HQ7:=hid (HQ6.out.ahead hb6)
 have HP7:=hid (HP6.out.ahead hb6)
 have HE7:=hid (HE6.out.trans (hb6.mono HE6.out.size))
 clear hb6 hw6 HRS qn rq0 rq1 re0 re1 e0 e1 q0 q1 HI6 HT6 HA6 HB6 HC6 HQ6 HP6 HE6 HL6
 have HC:=hid (HN1.out w6 a3 c3 _ HP7.out HCP3.out HI7.out)
 simp only at HC
 obtain ⟨k0,k1,k2,k3,k4⟩:=BK.c5 (show BK _ #[.slice wa1 1 wc1,.slice qa1 1 qc1,.slice aa1 1 ac1,.slice ca1 0 cc1,.bool false] _ _ from HT7.out)
 go_wp2_with fail
 (with_reducible refine (HC.out).mono ?_)
 rintro e u7 ⟨X2,rfl,hin,hb,_⟩
 obtain ⟨wa2,wc2,qa2,qc2,aa2,ac2,ca2,cc2⟩:=X2
 simp only [Tk.val,Tk.arr,List.length_nil,List.length_cons,Nat.zero_add]
 have HI8:=hid hin
 have HT8:=hid (HT7.out.below hb)
 have HA8:=hid (HA7.out.below hb)
 have HB8:=hid (HB7.out.below hb)
 have HC8:=hid (HC7.out.below hb)
 have HQ8:=hid (HQ7.out.ahead hb)
 have HP8:=hid (HP7.out.ahead hb)
 have HE8:=hid (HE7.out.trans (hb.mono HE7.out.size))
 have HNI:Hid (NoInt #[.slice wa1 1 wc1,.slice qa1 1 qc1,.slice aa1 1 ac1,.slice ca1 0 cc1,.bool false]):=hid (noint_tk (⟨[(C1,C2)],[(A1,A2)],[(B1,B2)],[],false⟩:Tk) (⟨wa1,wc1,qa1,qc1,aa1,ac1,ca1,cc1⟩:TkA))
 clear k0 k1 k2 k3 k4
 obtain ⟨f0,f1,f2,f3,f4⟩:=BK.c5 (show BK _ #[.slice wa1 1 wc1,.slice qa1 1 qc1,.slice aa1 1 ac1,.slice ca1 0 cc1,.bool false] _ _ from HT8.out)
 obtain ⟨ff0,ff1,ff2,ff3,ff4⟩:=BK.f5 (HT8.out)
 obtain ⟨x7,hx7⟩:∃ x7,x7=((((u7.setCell ⟨tb,0,none⟩ (.slice wa2 1 wc2)).setCell ⟨tb,1,none⟩ (.slice qa2 1 qc2)).setCell ⟨tb,2,none⟩ (.slice aa2 0 ac2)).setCell ⟨tb,3,none⟩ (.slice ca2 0 cc2)).setCell ⟨tb,4,none⟩ (.bool false):=⟨_,rfl⟩
 have hg7:u7.grownBy x7 (some tb):=by rw [hx7]; exact gown (gown (gown (gown (gset _ _ _ _) _ _) _ _) _ _) _ _
 have HT9:Hid (BK tb #[.slice wa2 1 wc2,.slice qa2 1 qc2,.slice aa2 0 ac2,.slice ca2 0 cc2,.bool false] 67 x7):=hid (by rw [hx7]; exact ((((HT8.out.set 0 _).set 1 _).set 2 _).set 3 _).set 4 _)
 have HI9:=hid (HI8.out.store HT8.out HNI.out hg7)
 have HA9:=hid (HA8.out.grow1 hg7 (by omega))
 have HB9:=hid (HB8.out.grow1 hg7 (by omega))
 have HC9:=hid (HC8.out.grow1 hg7 (by omega))
 have HQ9:=hid (its_store HQ8.out HT8.out HNI.out hg7)
 have HP9:=hid (its_store HP8.out HT8.out HNI.out hg7)
 have HE9:=hid (HE8.out.grown hg7 HE8.out.size (fun k e=>by cases e; omega))
 have HC:=hid (HK2.out x7 a3 c3 _ HP9.out HCP3.out HI9.out)
 simp only at HC
 obtain ⟨y0,y1,y2,y3,y4⟩:=BK.c5 (show BK _ #[.slice wa2 1 wc2,.slice qa2 1 qc2,.slice aa2 0 ac2,.slice ca2 0 cc2,.bool false] _ _ from HT9.out)
 rw [hx7] at HC y0 y1 y2 y3 y4
 have HX7:=hid hx7
 clear hin hb hx7 hg7 HI7 HT7 HA7 HB7 HC7 HQ7 HP7 HE7 HI8 HT8 HA8 HB8 HC8 HQ8 HP8 HE8 HNI HN1 HK2
 go_wp2_with fail
 (with_reducible refine (HC.out).mono ?_)
 rintro e u8 ⟨X3,la,lc,rfl,hin,hdg,hlc,hb,_⟩
 rw [<-HX7.out] at hb
 obtain ⟨wa3,wc3,qa3,qc3,aa3,ac3,ca3,cc3⟩:=X3
 simp only [Tk.val,Tk.arr,List.length_cons,List.length_nil,Nat.zero_add] at hdg hlc ⊢
 obtain ⟨b6,o6,haa,hb6,_,_⟩:=hdg 0 (by simp)
 subst haa
 have HI10:=hid hin
 have HL10:Hid (Digs u8.heap.size u8 (some ⟨b6,o6,none⟩) [(A1,A2)]):=hid hdg
 have HT10:=hid (HT9.out.below hb)
 have HA10:=hid (HA9.out.below hb)
 have HB10:=hid (HB9.out.below hb)
 have HC10:=hid (HC9.out.below hb)
 have HQ10:=hid (HQ9.out.ahead hb)
 have HP10:=hid (HP9.out.ahead hb)
 have HE10:=hid (HE9.out.trans (hb.mono HE9.out.size))
 have HNI:Hid (NoInt #[.slice wa2 1 wc2,.slice qa2 1 qc2,.slice aa2 0 ac2,.slice ca2 0 cc2,.bool false]):=hid (noint_tk (⟨[(C1,C2)],[(A1,A2)],[],[],false⟩:Tk) (⟨wa2,wc2,qa2,qc2,aa2,ac2,ca2,cc2⟩:TkA))
 clear f0 f1 f2 f3 f4 ff0 ff1 ff2 ff3 ff4 y0 y1 y2 y3 y4
 obtain ⟨f0,f1,f2,f3,f4⟩:=BK.c5 (show BK _ #[.slice wa2 1 wc2,.slice qa2 1 qc2,.slice aa2 0 ac2,.slice ca2 0 cc2,.bool false] _ _ from HT10.out)
 obtain ⟨ff0,ff1,ff2,ff3,ff4⟩:=BK.f5 (HT10.out)
 obtain ⟨x8,hx8⟩:∃ x8,x8=((((u8.setCell ⟨tb,0,none⟩ (.slice wa3 1 wc3)).setCell ⟨tb,1,none⟩ (.slice qa3 0 qc3)).setCell ⟨tb,2,none⟩ (.slice aa3 1 ac3)).setCell ⟨tb,3,none⟩ (.slice ca3 0 cc3)).setCell ⟨tb,4,none⟩ (.bool false):=⟨_,rfl⟩
 have hg8:u8.grownBy x8 (some tb):=by rw [hx8]; exact gown (gown (gown (gown (gset _ _ _ _) _ _) _ _) _ _) _ _
 have HT11:Hid (BK tb #[.slice wa3 1 wc3,.slice qa3 0 qc3,.slice aa3 1 ac3,.slice ca3 0 cc3,.bool false] 67 x8):=hid (by rw [hx8]; exact ((((HT10.out.set 0 _).set 1 _).set 2 _).set 3 _).set 4 _)
 have HI11:=hid (HI10.out.store HT10.out HNI.out hg8)
 have HL11:=hid (digs_store HL10.out HT10.out HNI.out hg8)
 have HA11:=hid (HA10.out.grow1 hg8 (by omega))
 have HB11:=hid (HB10.out.grow1 hg8 (by omega))
 have HC11:=hid (HC10.out.grow1 hg8 (by omega))
 have HQ11:=hid (its_store HQ10.out HT10.out HNI.out hg8)
 have HP11:=hid (its_store HP10.out HT10.out HNI.out hg8)
 have HE11:=hid (HE10.out.grown hg8 HE10.out.size (fun k e=>by cases e; omega))
 have HX8:=hid hx8
 clear hin hdg hlc hb hb6 hx8 hg8 HC HX7 HI9 HT9 HA9 HB9 HC9 HQ9 HP9 HE9 HI10 HL10 HT10 HA10 HB10 HC10 HQ10 HP10 HE10 HNI
 go_upto_region 10 with (fail)
 rw [<-HX8.out]
 clear f0 f1 f2 f3 f4 ff0 ff1 ff2 ff3 ff4 HX8
 obtain ⟨_,_,haa,hb6,q0,q1⟩:=HL11.out 0 (by simp)
 cases haa
 simp only [List.getElem_cons_zero,Nat.zero_mul,Nat.add_zero] at q0 q1
 obtain ⟨e0,e1⟩:=BK.c2 (show BK _ #[.int .u64 A1,.int .u64 A2] _ _ from HA11.out)
 have qn:=fun W=>neq_dig A1 A2 A1 A2 W
 simp only [BEq.rfl,Bool.and_self,Bool.not_true] at qn
 have rq0:=cell_regrown q0
 have rq1:=cell_regrown q1
 have re0:=cell_regrown e0
 have re1:=cell_regrown e1
 clear hb6
 refine wp_region_quiet_below (by kernel_rfl) (by kernel_rfl) ?_
 repeat (any_goals (first | go_big_quiet_step (fail) | quiet_step (fail)))
 refine wpQuiet_nil ?_
 intro w9 hw9
 have hb9:=below_rg hw9
 have HI12:=hid (HI11.out.ahead hb9)
 have HT12:=hid (HT11.out.below hb9)
 have HL12:=hid (HL11.out.ahead hb9)
 have HA12:=hid (HA11.out.below hb9)
 have HB12:=hid (HB11.out.below hb9)
 have HC12:=hid (HC11.out.below hb9)
 have HQ12:=hid (HQ11.out.ahead hb9)
 have HP12:=hid (HP11.out.ahead hb9)
 have HE12:=hid (HE11.out.trans (hb9.mono HE11.out.size))
 clear hb9 hw9 qn rq0 rq1 re0 re1 e0 e1 q0 q1 HI11 HT11 HA11 HB11 HC11 HQ11 HP11 HE11 HL11 HA12 HB12
 have hd9:Below w9.heap.size w9 w9.drew:=(Below.refl _ _).drew
 have HAC:=hid (HW2.out w9.drew a2 c2 (some ⟨b6,o6,none⟩) lc (HQ12.out.ahead hd9) HCQ.out (HL12.out.ahead hd9))
 have HLC:=hid (fun u ya yc (hb:Below w9.heap.size w9 u) (hd:Digs u.heap.size u ya [(A1,A2)])=>HN3.out u a3 c3 (⟨wa3,wc3,qa3,qc3,aa3,ac3,ca3,cc3⟩:TkA) ya yc (HP12.out.ahead hb) HCP3.out (HI12.out.ahead hb) hd)
 simp only at HLC
 have HTC:Hid (∀ u,Below w9.heap.size w9 u->(u.cell? ⟨tb,0,none⟩=some (.slice wa3 1 wc3)/\u.cell? ⟨tb,1,none⟩=some (.slice qa3 0 qc3)/\u.cell? ⟨tb,2,none⟩=some (.slice aa3 1 ac3)/\u.cell? ⟨tb,3,none⟩=some (.slice ca3 0 cc3)/\u.cell? ⟨tb,4,none⟩=some (.bool false))/\u.frozen? ⟨tb,0,none⟩=false/\u.frozen? ⟨tb,1,none⟩=false/\u.frozen? ⟨tb,2,none⟩=false/\u.frozen? ⟨tb,3,none⟩=false/\u.frozen? ⟨tb,4,none⟩=false):=hid (fun u hb=>by
  have hk:=HT12.out.below hb
  refine ⟨⟨?_,?_,?_,?_,?_⟩,hk.frozen 0,hk.frozen 1,hk.frozen 2,hk.frozen 3,hk.frozen 4⟩ <;> (rw [hk.cell]; rfl))
 obtain ⟨⟨y0,y1,y2,y3,y4⟩,_,_,_,_,_⟩:=HTC.out w9 (Below.refl _ _)
 clear hd9 HW2 HN3
 go_upto_region 12 with (fail)
 go_region_law
  (first
  | (go_simp; (with_reducible refine (HAC.out).mono ?_); rintro e u10 ⟨ya,yc,rfl,hown10,hb10⟩; (have hb10':Below w9.heap.size w9 u10:=((Below.refl _ _).drew).trans (hb10.mono (Nat.le_refl _))); (have HC3:=HLC.out u10 ya yc hb10' (ownsRow_digs hown10)); (obtain ⟨⟨r0,r1,r2,r3,r4⟩,_,_,_,_,_⟩:=HTC.out u10 hb10'); simp only [List.length_cons,List.length_nil,Nat.zero_add]; clear hown10)
  | (go_simp; (with_reducible refine HC3.mono ?_); rintro e u11 ⟨X4,rfl,hin11,hb11,_⟩; (have hb11':Below w9.heap.size w9 u11:=hb10'.trans (hb11.mono hb10'.size)); (obtain ⟨⟨f0,f1,f2,f3,f4⟩,ff0,ff1,ff2,ff3,ff4⟩:=HTC.out u11 hb11'); (obtain ⟨wa4,wc4,qa4,qc4,aa4,ac4,ca4,cc4⟩:=X4); simp only [Tk.val,Tk.arr,List.length_cons,List.length_nil,Nat.zero_add])
  | fail)
 all_goals
  obtain ⟨x11,hx11⟩:∃ x11,x11=((((u11.setCell ⟨tb,0,none⟩ (.slice wa4 1 wc4)).setCell ⟨tb,1,none⟩ (.slice qa4 0 qc4)).setCell ⟨tb,2,none⟩ (.slice aa4 0 ac4)).setCell ⟨tb,3,none⟩ (.slice ca4 1 cc4)).setCell ⟨tb,4,none⟩ (.bool true):=⟨_,rfl⟩
  rw [<-hx11]
  have hk11:=HT12.out.below hb11'
  have hg11:u11.grownBy x11 (some tb):=by rw [hx11]; exact gown (gown (gown (gown (gset _ _ _ _) _ _) _ _) _ _) _ _
  have hno:NoInt #[.slice wa3 1 wc3,.slice qa3 0 qc3,.slice aa3 1 ac3,.slice ca3 0 cc3,.bool false]:=noint_tk (⟨[(C1,C2)],[],[(A1,A2)],[],false⟩:Tk) (⟨wa3,wc3,qa3,qc3,aa3,ac3,ca3,cc3⟩:TkA)
  have HT13:Hid (BK tb #[.slice wa4 1 wc4,.slice qa4 0 qc4,.slice aa4 0 ac4,.slice ca4 1 cc4,.bool true] 67 x11):=hid (by rw [hx11]; exact ((((hk11.set 0 _).set 1 _).set 2 _).set 3 _).set 4 _)
  have HQ13:=hid (its_store (HQ12.out.ahead hb11') hk11 hno hg11)
  have HI13:=hid (hin11.store hk11 hno hg11)
  have HC13:=hid ((HC12.out.below hb11').grow1 hg11 (by omega))
  have HE13:=hid ((HE12.out.trans (hb11'.mono HE12.out.size)).grown hg11 (HE12.out.trans (hb11'.mono HE12.out.size)).size (fun k e=>by cases e; omega))
  have HC:=hid (HSN.out x11 a2 c2 wa4 wc4 ca4 cc4 HQ13.out HCQ.out HI13.out.w HI13.out.c)
  clear hx11 hk11 hg11 hno hin11 hb11 hb11' hb10 hb10' HC3 y0 y1 y2 y3 y4 r0 r1 r2 r3 r4 f0 f1 f2 f3 f4 ff0 ff1 ff2 ff3 ff4 HT12 HQ12 HI12 HC12 HE12 HP12 HL12 HTC HAC HLC HSN
  obtain ⟨k0,k1,k2,k3,k4⟩:=BK.c5 (show BK _ #[.slice wa4 1 wc4,.slice qa4 0 qc4,.slice aa4 0 ac4,.slice ca4 1 cc4,.bool true] _ _ from HT13.out)
  go_wp2_with fail
  (with_reducible refine (HC.out).mono ?_)
  rintro e u12 ⟨sa,sc,rfl,hown,hb⟩
  simp only [List.length_cons,List.length_nil,Nat.zero_add] at hown ⊢
  obtain ⟨b7,o7,haa,hb7,q0,q1⟩:=(ownsRow_digs (ds:=[(C1,C2)]) hown) 0 (by simp)
  subst haa
  simp only [List.getElem_cons_zero,Nat.zero_mul,Nat.add_zero] at q0 q1
  have HE14:=hid (HE13.out.trans (hb.mono HE13.out.size))
  have hk14:=HT13.out.below hb
  have hc14:=HC13.out.below hb
  clear k0 k1 k2 k3 k4
  obtain ⟨k0,k1,k2,k3,k4⟩:=BK.c5 (show BK _ #[.slice wa4 1 wc4,.slice qa4 0 qc4,.slice aa4 0 ac4,.slice ca4 1 cc4,.bool true] _ _ from hk14)
  obtain ⟨e0,e1⟩:=BK.c2 (show BK _ #[.int .u64 C1,.int .u64 C2] _ _ from hc14)
  have qn:=fun W=>eql_dig C1 C2 C1 C2 W
  simp only [BEq.rfl,Bool.and_self] at qn
  have rq0:=cell_regrown q0
  have rq1:=cell_regrown q1
  have re0:=cell_regrown e0
  have re1:=cell_regrown e1
  have rk4:=cell_regrown k4
  clear hown hb hb7 hk14 hc14 HC HT13 HQ13 HI13 HC13 HE13 k0 k1 k2 k3
  go_upto_region 14 with (fail)
  refine wp_region_quiet_below (by kernel_rfl) (by kernel_rfl) ?_
  repeat (any_goals (first | go_big_quiet_step (fail) | quiet_step (fail)))
  refine wpQuiet_nil ?_
  intro w14 hw14
  have hb14:=below_rg hw14
  go_wp2_with fail
  go_ret
  exact ⟨rfl,HE14.out.trans (hb14.mono HE14.out.size)⟩
end Go.Proofs.YtfdahmicigpnoaaGreat
