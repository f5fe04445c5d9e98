/- Packs: the reference's entry. -/
import Derived.Test.YtijkieiihpiljaaGreatPkKe
import Derived.Test.YtijkieiihpiljaaGreatP6
import Derived.Test.YtijkieiihpiljaaGreatP8
import Derived.Test.YtijkieiihpiljaaGreatK6
set_option maxRecDepth 100000
set_option maxHeartbeats 16000000
open Go.Lib (hid)
namespace Go.Proofs.YtijkieiihpiljaaGreat
open Go.RowKit Go.Shelf
set_option linter.unusedVariables false
theorem rnumw_any (n:Nat) (h:(n:Int)<=1099511627776) (w:World):Calls Tryz.prog 35 #[.int .i64 (n:Int)] w fun e w'=>e = .returned (.string ⟨(Cw.enc n).toArray⟩)/\Below w.heap.size w w':=by
 have HC:=hid (rpi n h)
 generalize Cw.enc n=T at HC
 go_enter Tryz.func35,Tryz.ntmps35
 go_wp2_with fail
 (with_reducible refine (HC.out _).mono ?_)
 rintro e u ⟨rfl,hb⟩
 go_wp2_with fail
 go_ret
 exact ⟨rfl,hb⟩
theorem putT_eq {T:List UInt8} (h:T.length<=65536):(putT T).1=putX T:=by unfold putT putX; rw [if_pos h]
theorem rtextw_any (T:List UInt8) (h:T.length<=65536) (w:World):Calls Tryz.prog 80 #[.string ⟨T.toArray⟩] w fun e w'=>e = .returned (.string ⟨(putX T).toArray⟩)/\Below w.heap.size w w':=by
 have HC:=hid (rpt T h)
 rw [putT_eq h] at HC
 generalize putX T=X at HC
 go_enter Tryz.func80,Tryz.ntmps80
 go_wp2_with fail
 (with_reducible refine (HC.out _).mono ?_)
 rintro e u ⟨rfl,hb⟩
 go_wp2_with fail
 go_ret
 exact ⟨rfl,hb⟩
structure EwSt (xs:List Itm) (d:Dg) (cs:List Dg) (R:List UInt8) (i:Nat) (z:Int) (out:List UInt8):Prop where
 st:∃ r,out=entB xs d r/\entB xs d (pickR (fun c=>(txS xs d c).length) (cs.drop i) z.toNat r)=R
theorem EwSt.start (xs:List Itm) (d:Dg) (cs:List Dg):EwSt xs d cs (entB xs d (chosen xs d cs)) 0 (((putX (datD xs d)).length:Int) - 16) (entB xs d none):=
 ⟨none,rfl,by unfold chosen; rw [List.drop_zero]; congr 2; omega⟩
theorem EwSt.next {xs:List Itm} {d:Dg} {cs:List Dg} {R:List UInt8} {i:Nat} {z:Int} {out:List UInt8} (h:EwSt xs d cs R i z out) (hi:i < cs.length) :
  (((txS xs d cs[i]).length:Int) < z->EwSt xs d cs R (i + 1) ((txS xs d cs[i]).length:Int) (entB xs d (some cs[i])))/\(¬ ((txS xs d cs[i]).length:Int) < z->EwSt xs d cs R (i + 1) z out):=by
 obtain ⟨r,rfl,hr⟩:=h.st
 rw [List.drop_eq_getElem_cons hi,pickR] at hr
 refine ⟨fun hz=>⟨some cs[i],rfl,?_⟩,fun hz=>⟨r,rfl,?_⟩⟩
 ·rw [if_pos (by omega)] at hr
  rw [Int.toNat_natCast]
  exact hr
 ·rw [if_neg (by omega)] at hr
  exact hr
theorem EwSt.done {xs:List Itm} {d:Dg} {cs:List Dg} {R:List UInt8} {i:Nat} {z:Int} {out:List UInt8} (h:EwSt xs d cs R i z out) (hi:cs.length<=i):out=R:=by
 obtain ⟨r,rfl,hr⟩:=h.st
 rw [List.drop_of_length_le hi,pickR] at hr
 exact hr
theorem entB_none (xs:List Itm) (d:Dg):entB xs d none=beD d ++ Cw.enc 0 ++ putX (datD xs d):=by unfold entB; simp
theorem entB_some (xs:List Itm) (d c:Dg):entB xs d (some c)=beD d ++ Cw.enc 1 ++ beD c ++ txS xs d c:=by unfold entB; simp
theorem saddK (A B:List UInt8) (h:A.length + B.length<=9000000) (W:World):(Op.stringOp .add ⟨A.toArray⟩ ⟨B.toArray⟩).run Tryz.prog W = .ok (.string ⟨(A ++ B).toArray⟩) W:=
 (run_string_add_sum (P:=Tryz.prog) (w:=W) ⟨A.toArray⟩ ⟨B.toArray⟩ (by rw [ba_len,ba_len]; omega)).trans (by rw [ba_append])
theorem wrap_neg {x:Int} (h0:-1000<=x) (h1:x<=1000000):IntKind.i64.wrap x=x:=by
 simp [IntKind.wrap,IntKind.bits,IntKind.signed]
 omega
theorem okb {x y:Int} (h:OkD (x,y)):(0<=x/\x<=18446744073709551615)/\0<=y/\y<=18446744073709551615:=by
 obtain ⟨h1,h2⟩:=h
 unfold u64B at h1 h2
 simp only at h1 h2
 omega
theorem enc_one (n:Nat) (h:n<=1):(Cw.enc n).length=1:=by
 rcases (by omega:n=0\/n=1) with rfl | rfl
 ·decide +kernel
 ·decide +kernel
theorem putX_len {T:List UInt8} {m:Nat} (h:T.length<=m):(putX T).length<=m + 10:=by
 unfold putX
 rw [List.length_append]
 have:=enc_length T.length
 omega
theorem tx_facts {F A:List UInt8} (hF:F.length<=1000) (hA:A.length<=1000):(encL (diffS F A)).2=0/\(encL (diffS F A)).1.length<=65536/\(diffS F A).length<=1000/\∀ o ∈ diffS F A,o.data.length<=1099511627776/\o.len<=1099511627776/\o.off<=1099511627776:=by
 obtain ⟨h1,h2,_,_⟩:=diff_enc (a:=F) (b:=A) (by omega) (by omega)
 have hst:DfSt F A (diffS F A) A.length (diffS F A):=⟨Nat.le_refl _,by rw [List.take_length]; exact diff_good F A,0,by omega,rfl⟩
 obtain ⟨g1,g2⟩:=hst.len
 exact ⟨h1,h2,by omega,fun o ho=>by have:=g2 o ho; omega⟩
theorem rentryw_any (a:Option Addr) (xs:List Itm) (c:Nat) (d1 d2:Int) (ca:Option Addr) (cs:List Dg) (cc:Nat) (w:World) (hp:Its w.heap.size w a xs) (hn:(xs.length:Int)<=9223372036854775807) (hdat:∀ d,(datD xs d).length<=1000) (hcs:Digs w.heap.size w ca cs) (hok:OkD (d1,d2)) (hcok:∀ x ∈ cs,OkD x) (hcl:(cs.length:Int)<=1000000) :
  Calls Tryz.prog 36 #[.slice a xs.length c,.agg #[.int .u64 d1,.int .u64 d2],.slice ca cs.length cc] w fun e w'=>e = .returned (.string ⟨(entB xs (d1,d2) (chosen xs (d1,d2) cs)).toArray⟩)/\Below w.heap.size w w':=by
 obtain ⟨w0,hw0⟩:∃ w0,w0=w.alloc (.cells #[.int .u64 d1,.int .u64 d2] 41):=⟨_,rfl⟩
 have hb0:Below w.heap.size w w0:=by rw [hw0]; exact (Below.refl _ _).alloc (Nat.le_refl _) _
 have HX0:Hid (BK w.heap.size #[.int .u64 d1,.int .u64 d2] 41 w0):=hid (by rw [hw0]; exact BK.new _ _ _)
 have HB0:=hid hb0
 have HDT:=hid (fun x y W (hW:Below w.heap.size w W)=>(show Calls Tryz.prog 79 #[.slice a xs.length c,.agg #[.int .u64 x,.int .u64 y]] W (fun e w'=>e = .returned (.tuple #[.string ⟨(datD xs (x,y)).toArray⟩,.bool ((datI xs (x,y)).2 == 0)])/\Below W.heap.size W w') from rdata_any a xs c x y W (hp.ahead hW) hn))
 have HCS:=hid (fun W (hW:Below w.heap.size w W)=>hcs.ahead hW)
 have HLA:=hid hdat
 have HCO:=hid hcok
 have HOKD:=hid hok
 obtain ⟨R,hR⟩:∃ R,R=entB xs (d1,d2) (chosen xs (d1,d2) cs):=⟨_,rfl⟩
 have HST:Hid (EwSt xs (d1,d2) cs R 0 (((putX (datD xs (d1,d2))).length:Int) - 16) (entB xs (d1,d2) none)):=hid (by rw [hR]; exact EwSt.start _ _ _)
 rw [<-hR]
 obtain ⟨n,hnn⟩:∃ n,n=xs.length:=⟨_,rfl⟩
 rw [<-hnn] at HDT ⊢
 obtain ⟨m,hm⟩:∃ m,m=cs.length:=⟨_,rfl⟩
 rw [<-hm] at hcl ⊢
 have HM:=hid hm
 have HD0:=HDT.out d1 d2 w0 hb0
 obtain ⟨A,hA⟩:∃ A,A=datD xs (d1,d2):=⟨_,rfl⟩
 have hAl:A.length<=1000:=by rw [hA]; exact hdat _
 rw [<-hA] at HD0 HST
 rw [hw0] at HD0
 have HD0:=hid HD0
 have HA:=hid hA
 have HTX:=hid (fun W=>rtextw_any A (by omega) W)
 have HBY:=hid (fun W=>rbytes_any d1 d2 (okb hok).1 (okb hok).2 W)
 have HNU:=hid (fun W=>rnumw_any 0 (by decide) W)
 have hAl':(A.length:Int)<=1000:=by omega
 have HAL:=hid hAl
 obtain ⟨X,hX⟩:∃ X,X=putX A:=⟨_,rfl⟩
 have hXl:X.length<=1010:=by rw [hX]; exact putX_len hAl
 rw [<-hX] at HTX HST
 obtain ⟨B,hB⟩:∃ B,B=beD (d1,d2):=⟨_,rfl⟩
 have hBl:B.length=16:=by rw [hB]; exact beD_length _
 rw [<-hB] at HBY
 obtain ⟨Z,hZ⟩:∃ Z,Z=Cw.enc 0:=⟨_,rfl⟩
 have hZl:Z.length=1:=by rw [hZ]; exact enc_one 0 (by omega)
 rw [<-hZ] at HNU
 have h1:=saddK B Z (by omega)
 have h2:=saddK (B ++ Z) X (by rw [List.length_append]; omega)
 have he0:entB xs (d1,d2) none=B ++ Z ++ X:=by rw [entB_none,<-hA,<-hX,<-hB,<-hZ]
 obtain ⟨BZ,hBZ⟩:∃ BZ,BZ=B ++ Z:=⟨_,rfl⟩
 rw [<-hBZ] at h1 h2 he0
 obtain ⟨O0,hO0⟩:∃ O0,O0=BZ ++ X:=⟨_,rfl⟩
 rw [<-hO0] at h2 he0
 rw [he0] at HST
 have HBB:=hid hB
 have hsx:=ba_len X
 obtain ⟨nx,hnx⟩:∃ nx,nx=X.length:=⟨_,rfl⟩
 rw [<-hnx] at hsx hXl HST
 obtain ⟨z0,hz0⟩:∃ z0:Int,z0=(nx:Int) - 16:=⟨_,rfl⟩
 have hw1:IntKind.i64.wrap ((nx:Int) - 16)=z0:=by rw [hz0]; exact wrap_neg (by omega) (by omega)
 rw [<-hz0] at HST
 have HZB:Hid (-20<=z0/\z0<=70000):=hid (by omega)
 have HW0:=hid hw0
 have HNUM:Hid (∀ W,Calls Tryz.prog 35 #[.int .i64 0] W fun e w'=>e = .returned (.string ⟨Z.toArray⟩)/\Below W.heap.size W w'):=HNU
 clear hw0 hb0 hp hn hdat hcs hcok hR hnn hm hA hAl hAl' hX hXl hB hBl hZ hZl he0 hBZ hO0 hnx hz0 HNU
 go_enter Tryz.func36,Tryz.ntmps36
 go_wp2_with fail
 (with_reducible refine (HD0.out).mono ?_)
 rintro e u ⟨rfl,hb⟩
 rw [<-HW0.out] at hb
 have HB1:=hid (HB0.out.trans (hb.mono HB0.out.size))
 have HX1:=hid (HX0.out.below hb)
 clear hb HD0 HX0 HB0 HW0
 go_wp2_with fail
 (with_reducible refine (HTX.out _).mono ?_)
 rintro e u2 ⟨rfl,hb⟩
 have HB2:=hid (HB1.out.trans (hb.mono HB1.out.size))
 have HX2:=hid (HX1.out.below hb)
 clear hb HTX HX1 HB1
 obtain ⟨f0,f1⟩:=BK.c2 (show BK _ #[.int .u64 d1,.int .u64 d2] _ _ from HX2.out)
 go_wp2_with fail
 clear f0 f1
 (with_reducible refine (HBY.out _).mono ?_)
 rintro e u3 ⟨rfl,hb⟩
 have HB3:=hid (HB2.out.trans (hb.mono HB2.out.size))
 have HX3:=hid (HX2.out.below hb)
 clear hb HX2 HB2
 go_wp2_with fail
 (with_reducible refine (HNUM.out _).mono ?_)
 rintro e u4 ⟨rfl,hb⟩
 have HB4:=hid (HB3.out.trans (hb.mono HB3.out.size))
 have HX4:=hid (HX3.out.below hb)
 clear hb HX3 HB3
 go_wp2_with fail
 clear h1 h2 hsx hw1 HNUM
 generalize hzz:z0=z1 at HST HZB ⊢
 clear hzz
 go_loopw [10,11,12] (fun o l i wr=>∃ (k:Nat) (z:Int) (O:List UInt8),k<=m/\i = .int .i64 (k:Int)/\l = .int .i64 z/\o = .string ⟨O.toArray⟩/\Hid (EwSt xs (d1,d2) cs R k z O)/\Hid (Below w.heap.size w wr)/\Hid (BK w.heap.size #[.int .u64 d1,.int .u64 d2] 41 wr)) (fun _ _ i _=>m - (intOf i).toNat)
 case atStart=>exact ⟨0,z1,O0,by omega,rfl,rfl,rfl,HST,HB4,HX4⟩
 case round=>
  clear HST HB4 HX4
  obtain ⟨k,z,O,hk,rfl,rfl,rfl,HST,HB,HX⟩:=hrel
  by_cases hlt:k < m
  ·have hki:(k:Int) < (m:Int):=by omega
   have hkc:k < cs.length:=by rw [<-HM.out]; exact hlt
   obtain ⟨lb,lo,rfl,hlb,c0,c1⟩:=HCS.out wr HB.out k hkc
   have HLC:Hid (∀ W,Below wr.heap.size wr W->W.cell? ⟨lb,lo + k * 2,none⟩=some (.int .u64 cs[k].1)/\W.cell? ⟨lb,lo + k * 2 + 1,none⟩=some (.int .u64 cs[k].2)):=hid (fun W hW=>⟨(hW.cell (p:=⟨lb,lo + k * 2,none⟩) hlb).trans c0,(hW.cell (p:=⟨lb,lo + k * 2 + 1,none⟩) hlb).trans c1⟩)
   have HN:=hid (HST.out.next hkc)
   have hco:=HCO.out _ (List.getElem_mem hkc)
   generalize cs[k]=cd at c0 c1 HLC HN hco
   obtain ⟨e1,e2⟩:=cd
   simp only at c0 c1 HLC
   have hdc:=HDT.out e1 e2 wr HB.out
   have hFl:=HLA.out (e1,e2)
   have htx:txS xs (d1,d2) (e1,e2)=putX (encL (diffS (datD xs (e1,e2)) A)).1:=by unfold txS; rw [<-HA.out]
   have hes:=entB_some xs (d1,d2) (e1,e2)
   rw [htx] at HN hes
   obtain ⟨F,hF⟩:∃ F,F=datD xs (e1,e2):=⟨_,rfl⟩
   rw [<-hF] at hdc hFl HN hes
   obtain ⟨t1,t2,t3,t4⟩:=tx_facts hFl HAL.out
   have HDC:=hid hdc
   generalize ((datI xs (e1,e2)).2 == 0)=bb at HDC
   have HDF:=hid (fun W=>rdiff04_any F A W (by omega) (by have:=HAL.out; omega))
   have HEN:=hid (fun W oa oc (h:GIn opCs 3 W.heap.size W oa (diffS F A))=>rdenc_any oa (diffS F A) oc W h (by omega) t4)
   have hpt:=fun W=>rpt (encL (diffS F A)).1 t2 W
   rw [t1] at HEN
   rw [putT_eq t2] at hpt
   have hTl:=putX_len t2
   generalize (encL (diffS F A)).1=E at HEN hpt HN hes hTl
   generalize diffS F A=D at HDF HEN
   generalize putX E=T at hpt HN hes hTl
   have HPT:=hid hpt
   have HES:=hid hes
   clear t1 t2 t3 t4 hpt hdc hF hFl hes htx hkc
   go_wp2_with fail
   (with_reducible refine (HDC.out).mono ?_)
   rintro e v ⟨rfl,hb⟩
   have HB2:=hid (hb)
   unfold GotLd at HDF
   clear hb HDC c0 c1
   go_wp2_with fail
   (with_reducible refine (HDF.out _).mono ?_)
   rintro e v2 ⟨da,dc,rfl,hg,_,hb⟩
   have HB3:=hid (HB2.out.trans (hb.mono HB2.out.size))
   have HEC:=hid (HEN.out v2 da dc hg)
   generalize D.length=nd at HEC ⊢
   clear hg hb HB2 HDF HEN
   go_wp2_with fail
   (with_reducible refine (HEC.out).mono ?_)
   rintro e v3 ⟨rfl,hb⟩
   have HB4:=hid (HB3.out.trans (hb.mono HB3.out.size))
   clear hb HB3 HEC
   go_wp2_with fail
   (with_reducible refine (HPT.out _).mono ?_)
   rintro e v4 ⟨rfl,hb⟩
   have HB5:=hid (HB4.out.trans (hb.mono HB4.out.size))
   clear hb HB4 HPT
   have hsT:=ba_len T
   by_cases hTz:(T.length:Int) < z
   ·have HN1:=hid (HN.out.1 hTz)
    obtain ⟨Z1,hZ1⟩:∃ Z1,Z1=Cw.enc 1:=⟨_,rfl⟩
    have hZ1l:Z1.length=1:=by rw [hZ1]; exact enc_one 1 (by omega)
    obtain ⟨C,hC⟩:∃ C,C=beD (e1,e2):=⟨_,rfl⟩
    have hCl:C.length=16:=by rw [hC]; exact beD_length _
    have hBl:B.length=16:=by rw [HBB.out]; exact beD_length _
    have a1:=saddK B Z1 (by omega)
    have a2:=saddK (B ++ Z1) C (by rw [List.length_append]; omega)
    have a3:=saddK (B ++ Z1 ++ C) T (by rw [List.length_append,List.length_append]; omega)
    have hes:=HES.out
    rw [<-hZ1,<-hC,<-HBB.out] at hes
    have HES2:=hid hes
    obtain ⟨P1,hP1⟩:∃ P1,P1=B ++ Z1:=⟨_,rfl⟩
    rw [<-hP1] at a1 a2 a3 hes
    obtain ⟨P2,hP2⟩:∃ P2,P2=P1 ++ C:=⟨_,rfl⟩
    rw [<-hP2] at a2 a3 hes
    obtain ⟨P3,hP3⟩:∃ P3,P3=P2 ++ T:=⟨_,rfl⟩
    rw [<-hP3] at a3 hes
    rw [hes] at HN1
    have hby:=fun W=>rbytes_any d1 d2 (okb HOKD.out).1 (okb HOKD.out).2 W
    have hcy:=fun W=>rbytes_any e1 e2 (okb hco).1 (okb hco).2 W
    have hnu:=fun W=>rnumw_any 1 (by decide) W
    rw [<-HBB.out] at hby
    rw [<-hC] at hcy
    rw [<-hZ1] at hnu
    have HR1:=hid hby
    have HR2:=hid hcy
    have HR3:Hid (∀ W,Calls Tryz.prog 35 #[.int .i64 1] W fun e w'=>e = .returned (.string ⟨Z1.toArray⟩)/\Below W.heap.size W w'):=hid hnu
    have HX4:=HX.out.below HB5.out
    obtain ⟨f0,f1⟩:=BK.c2 (show BK _ #[.int .u64 d1,.int .u64 d2] _ _ from HX4)
    obtain ⟨c0,c1⟩:=HLC.out v4 HB5.out
    have f0:=cell_regrown f0
    have f1:=cell_regrown f1
    have c0:=cell_regrown c0
    have c1:=cell_regrown c1
    have HQ1:=hid (fun d os=>Calls.regrown_of (w:=v4) (d:=d) (os:=os) (HR1.out _))
    have HQ2:=hid (fun d os=>Calls.regrown_of (w:=v4) (d:=d) (os:=os) (HR2.out _))
    have HQ3:=hid (fun d os=>Calls.regrown_of (w:=v4) (d:=d) (os:=os) (HR3.out _))
    obtain ⟨nT,hnT⟩:∃ nT,nT=T.length:=⟨_,rfl⟩
    rw [<-hnT] at hsT hTz HN1
    have HX4:=hid HX4
    clear hby hcy hnu hes hP1 hP2 hP3 hC hZ1 hZ1l hCl hBl hnT hTl HR1 HR2 HR3
    go_wp2_with fail
    refine wp_region_quiet_below (by kernel_rfl) (by kernel_rfl) ?_
    repeat (any_goals (first | go_big_quiet_step (first | (with_reducible exact HQ1.out _ _) | (with_reducible exact HQ2.out _ _) | (with_reducible exact HQ3.out _ _)) | quiet_step (first | (with_reducible exact HQ1.out _ _) | (with_reducible exact HQ2.out _ _) | (with_reducible exact HQ3.out _ _))))
    refine wpQuiet_nil ?_
    intro w5 hw5
    have hb5:=below_rg hw5
    have HB6:=hid (HB.out.trans ((HB5.out.trans (hb5.mono HB5.out.size)).mono HB.out.size))
    have HX6:=hid (HX4.out.below hb5)
    clear hw5 hb5
    go_wp2_with fail
    go_roundw
    case rel=>exact ⟨k + 1,_,P3,by omega,by go_num,rfl,rfl,HN1,HB6,HX6⟩
    case measure=>simp [intOf] <;> omega
   ·have HN2:=hid (HN.out.2 (by omega))
    have HB6:=hid (HB.out.trans (HB5.out.mono HB.out.size))
    have HX6:=hid (HX.out.below HB5.out)
    go_wp2_with fail
    go_roundw
    case rel=>exact ⟨k + 1,z,O,by omega,by go_num,rfl,rfl,HN2,HB6,HX6⟩
    case measure=>simp [intOf] <;> omega
  ·have hki:¬ (k:Int) < (m:Int):=by omega
   have HD:=hid (HST.out.done (by rw [<-HM.out]; omega))
   go_wp2_with fail
   go_ret
   exact ⟨by rw [HD.out]; first | done | rfl,HB.out⟩
end Go.Proofs.YtijkieiihpiljaaGreat
