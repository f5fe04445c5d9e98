/- talk of the statements about negotiations. -/
import Derived.Test.YtdeggadmbjkpfaaGreatNeTp
import Derived.Test.YtdeggadmbjkpfaaGreatNeSt
import Derived.Test.YtdeggadmbjkpfaaGreatNeBg
import Derived.Test.YtdeggadmbjkpfaaGreatNeAk
import Derived.Test.YtdeggadmbjkpfaaGreatNeLe
import Derived.Test.YtdeggadmbjkpfaaGreatNeAn
import Derived.Deep.RegionHeldLaw
set_option maxRecDepth 100000
set_option maxHeartbeats 16000000
namespace Go.Proofs.YtdeggadmbjkpfaaGreat
open Go.RowKit Go.Shelf Go.Sort
set_option linter.unusedVariables false
def mostN (x:Tlk):Nat:=(1 + x.mo % 5).toNat
theorem mostN_law {x:Tlk} (h:0 ≤ x.mo ∧ x.mo ≤ 255):((mostN x:Nat):Int)=1 + x.mo % 5 ∧ 1 ≤ mostN x ∧ mostN x ≤ 5:=by
 unfold mostN
 omega
theorem apt_new {n k:Nat} {a:Option Addr} {ds:List (Int × Int)} (h:New n a) (hk:k < n):Apt k a ds:=fun _ ad e=>by have:=h ad e; omega
theorem apt_none (k:Nat) (ds:List (Int × Int)):Apt k none ds:=fun _ ad e=>by cases e
def GotTk (w:World) (x:Tlk) (e:Ending) (w':World):Prop:=∃ (t:Tk) (X:TkA) (asked:List (Int × Int)) (n:Nat) (aa:Option Addr) (ac:Nat),
 e = .returned (.tuple #[t.val X,.slice aa asked.length ac,.int .i64 n,.bool true]) ∧ TkIn w' t X ∧ Digs w'.heap.size w' aa asked ∧ asked.length ≤ ac ∧ TI x.cl x.sv (ancS x.cl x.hd).1 (wantS x.cl x.wt) (mostN x) t asked n ∧ t.done=true ∧ Below w.heap.size w w'
theorem talk_any (x:Tlk) (A:TlA) (w:World) (h:TlCame w x A) (hf:Fine x) :
  Calls Tryz.prog 26 #[.agg (x.arr A)] w (GotTk w x):=by
 have hx1:=hf.cl.le
 have hx2:=hf.sv.le
 have h1l:=hf.hl
 have h2l:=hf.wl
 obtain ⟨hm0,hm1,hm5⟩:=mostN_law h.mo
 have hpin:∀ {W:World},Below w.heap.size w W → PoolIn W A.ca x.cl A.cc:=fun hW=>hf.cl.pin (h.cl.its.ahead hW) h.cl.cap.1
 have hqin:∀ {W:World},Below w.heap.size w W → PoolIn W A.sa x.sv A.sc:=fun hW=>hf.sv.pin (h.sv.its.ahead hW) h.sv.cap.1
 have HBG:=Lib.hid (fun W (hW:Below w.heap.size w W)=>begin_any A.ca x.cl A.cc A.ha x.hd A.hc A.wa x.wt A.wc W (hpin hW) hf.cl.asc hf.cl.acy (by omega) (h.hd.dig.ahead hW) h.hd.ok (by omega) (h.wt.dig.ahead hW) (by omega))
 have HAK:=Lib.hid (fun t X W (hW:Below w.heap.size w W) (ht:TkIn W t X) (hb:TkB t) (hv:ValidT x.cl t)=>ask_any A.ca x.cl A.cc t X (mostN x) true W (hpin hW) hf.cl.asc hf.cl.acy (by omega) ht hb ⟨fun _=>hv,fun _=>rfl⟩)
 have HAS:=Lib.hid (fun l la lc W (hW:Below w.heap.size w W) (hd:Digs W.heap.size W la l) (ho:∀ d ∈ l,OkD d) (hl:(l.length:Int) ≤ 45)=>(answer_any A.sa x.sv A.sc la l lc W (hqin hW) hf.sv.asc hf.sv.acy (by omega) hd ho hl).mono (R':=GotDs W (answS x.sv l)) (fun e w' h=>h.1))
 have HLN:=Lib.hid (fun t X com la lc W (hW:Below w.heap.size w W) (ht:TkIn W t X) (hb:TkB t) (hv:ValidT x.cl t) (hd:Digs W.heap.size W la com) (ho:∀ d ∈ com,OkD d) (hl:(com.length:Int) ≤ 45) (ha:((allS t.common com).length:Int) ≤ 45)=>learn_any A.ca x.cl A.cc t X la com lc true W (hpin hW) hf.cl.asc hf.cl.acy (by omega) ht hb ⟨fun _=>hv,fun _=>rfl⟩ hd ho hl ha)
 have HA:=Lib.hid (anc_le hf.cl h.hd.ok)
 have hwl:(wantS x.cl x.wt).length ≤ 20:=Nat.le_trans (wantS_len _ _) h2l
 have hwo:∀ d ∈ wantS x.cl x.wt,OkD d:=fun d hd=>h.wt.ok d (((wantS_law x.cl x.wt).2 d).1 hd).1
 have hb0:(beginS x.cl x.hd x.wt).2=0:=by unfold beginS; rw [if_neg (by simpa using hf.an)]
 have HST:=Lib.hid (TI.start (ys:=x.sv) (most:=mostN x) hb0)
 have HRD:=Lib.hid (fun t asked n (ht:TI x.cl x.sv (ancS x.cl x.hd).1 (wantS x.cl x.wt) (mostN x) t asked n) (hd:t.done=false)=>ht.rnd hf.cl.acy hd hm1 (by omega) HA.out.1 HA.out.2 hwl hwo)
 have HRN:=Lib.hid (fun t asked n (ht:TI x.cl x.sv (ancS x.cl x.hd).1 (wantS x.cl x.wt) (mostN x) t asked n) (hd:t.done=false)=>show n < 40 from Nat.lt_of_lt_of_le (ht.rounds hd hm1) HA.out.1)
 have HLE:=Lib.hid (fun t asked n (ht:TI x.cl x.sv (ancS x.cl x.hd).1 (wantS x.cl x.wt) (mostN x) t asked n)=>show asked.length ≤ 40 from Nat.le_trans (Nat.le_trans (Nat.le_add_right _ _) ht.len) HA.out.1)
 have HGT:Hid (∀ e w',GotTk w x e w' = ∃ (t:Tk) (X:TkA) (asked:List (Int × Int)) (n:Nat) (aa:Option Addr) (ac:Nat),e = .returned (.tuple #[t.val X,.slice aa asked.length ac,.int .i64 n,.bool true]) ∧ TkIn w' t X ∧ Digs w'.heap.size w' aa asked ∧ asked.length ≤ ac ∧ TI x.cl x.sv (ancS x.cl x.hd).1 (wantS x.cl x.wt) (mostN x) t asked n ∧ t.done=true ∧ Below w.heap.size w w'):=Lib.hid (fun e w'=>rfl)
 have hmo:=h.mo
 generalize mostN x=mm at HAK HST HRD HRN HLE HGT hm0 hm1 hm5
 obtain ⟨w0,hw0⟩:∃ w0,w0=(w.alloc (.cells (x.arr A) 45)).alloc (.cells #[.slice none 0 0,.slice none 0 0,.slice none 0 0,.slice none 0 0,.bool false] 26):=⟨_,rfl⟩
 have HB0:Hid (Below w.heap.size w w0):=Lib.hid (by rw [hw0]; exact ((Below.refl _ _).alloc (Nat.le_refl _) _).alloc (by simp) _)
 have HX0:Hid (BK w.heap.size (x.arr A) 45 w0):=Lib.hid (by rw [hw0]; exact (BK.new _ _ _).alloc _)
 have HK0:Hid (BK (w.heap.size + 1) #[.slice none 0 0,.slice none 0 0,.slice none 0 0,.slice none 0 0,.bool false] 26 w0):=Lib.hid (by rw [hw0]; exact BK.new2 _ _ _ _)
 have HC1:=Lib.hid (HBG.out w0 HB0.out)
 obtain ⟨BR,hBR⟩:∃ BR,BR=beginS x.cl x.hd x.wt:=⟨_,rfl⟩
 rw [← hBR] at HC1 HST hb0
 obtain ⟨t0,e0⟩:=BR
 simp only at HC1 HST hb0
 subst hb0
 generalize (ancS x.cl x.hd).1=AN at HA HST HRD HRN HLE HGT
 generalize wantS x.cl x.wt=WS at HST HRD HRN HLE HGT
 obtain ⟨cl,sv,hd',wt,mo⟩:=x
 obtain ⟨ca,cc,sa,sc,ha,hc,wa,wc⟩:=A
 simp only [Tlk.arr] at HC1 hw0 HX0 HAK HAS HLN HRD hm0 hmo ⊢
 rw [hw0] at HC1
 have HW0:=Lib.hid hw0
 generalize cl.length=ncl at HC1 HW0 HX0 HAK HLN ⊢
 generalize sv.length=nsv at HC1 HW0 HX0 HAS ⊢
 generalize hd'.length=nh at HC1 HW0 HX0 ⊢
 generalize wt.length=nt at HC1 HW0 HX0 ⊢
 clear hw0 hBR hf h hpin hqin hx1 hx2 h1l h2l hwl hwo HBG
 go_enter Tryz.func26,Tryz.ntmps26
 go_wp2_with fail
 (with_reducible refine (HC1.out).mono ?_)
 rintro e u1 ⟨X0,rfl,hin,hb,_⟩
 rw [← HW0.out] at hb
 simp only [Tk.val]
 have HI1:=Lib.hid hin
 have HB1:=Lib.hid (HB0.out.trans (hb.mono HB0.out.size))
 have HX1:=Lib.hid (HX0.out.below hb)
 have HK1:=Lib.hid (HK0.out.below hb)
 have hz1:w.heap.size + 2 ≤ u1.heap.size:=HK1.out.lt
 obtain ⟨v1,hv1⟩:∃ v1,v1=(u1.alloc (.cells (t0.arr X0) 26)).alloc (.cells #[] 52):=⟨_,rfl⟩
 have hbv:Below u1.heap.size u1 v1:=by rw [hv1]; exact ((Below.refl _ _).alloc (Nat.le_refl _) _).alloc (by simp) _
 have HEv:=Lib.hid hbv
 have HTv:Hid (BK u1.heap.size (t0.arr X0) 26 v1):=Lib.hid (by rw [hv1]; exact (BK.new _ _ _).alloc _)
 have HIv:=Lib.hid (HI1.out.ahead hbv)
 have HOv:Hid (v1.ownsRow (u1.heap.size + 1) 52 2 (.slice (some ⟨u1.heap.size + 1,0,none⟩) 0 0) 0 (dcells [])):=Lib.hid (by
  rw [hv1]
  have h1:=own_empty (u1.alloc (.cells (t0.arr X0) 26)) (u1.heap.size + 1) 52 2 (by simp)
  rwa [World.size_alloc] at h1)
 have HAP0:Hid (∀ k,(Value.slice (some ⟨u1.heap.size + 1,0,none⟩) 0 0).ownBlock=some k → TkApt k t0 X0):=Lib.hid (fun k e=>HI1.out.apt (by have:=(HOv.out.lt k e).1; omega))
 have HV1:=Lib.hid hv1
 simp only [Tk.arr] at HV1 ⊢
 clear hin hb hbv hv1 HC1 HW0 HB0 HX0 HK0 HI1
 go_wp2_with fail
 rw [← HV1.out]
 clear HV1
 go_loopw [7,8,9] (fun e v i wr=>∃ (n m:Nat) (t:Tk) (X:TkA) (asked:List (Int × Int)) (aa:Option Addr) (ac:Nat),e = .int .i64 0 ∧ v = .slice aa m ac ∧ i = .int .i64 n ∧ n ≤ 60 ∧ m ≤ ac ∧ Hid (m=asked.length) ∧ Hid (TI cl sv AN WS mm t asked n) ∧ Hid (TkIn wr t X) ∧ Hid (∀ k,(Value.slice aa m ac).ownBlock=some k → TkApt k t X) ∧ Hid (BK u1.heap.size (t.arr X) 26 wr) ∧ Hid (wr.ownsRow (u1.heap.size + 1) 52 2 (.slice aa m ac) m (dcells asked)) ∧ Hid (Below u1.heap.size u1 wr)) (fun _ _ i _=>60 - (intOf i).toNat)
 case atStart=>exact ⟨0,0,t0,X0,[],_,0,rfl,rfl,rfl,by omega,by omega,Lib.hid rfl,HST,HIv,HAP0,HTv,HOv,HEv⟩
 case round=>
  clear HST HIv HAP0 HTv HOv HEv
  obtain ⟨n,m,t,X,asked,aa,ac,rfl,rfl,rfl,hn60,hmac,HM,HTI,HI,HAP,HT,HO,HE⟩:=hrel
  have HB:=Lib.hid (HB1.out.trans (HE.out.mono HB1.out.size))
  have HXr:=Lib.hid (HX1.out.below HE.out)
  have HKr:=Lib.hid (HK1.out.below HE.out)
  obtain ⟨k0,k1,k2,k3,k4⟩:=tk_cells HT.out
  cases hd:t.done with
  | true=>
   rw [hd] at k4
   have hts:=talk_set HKr.out (.slice X.wa t.want.length X.wc) (.slice X.qa t.queue.length X.qc) (.slice X.aa t.asked.length X.ac) (.slice X.ca t.common.length X.cc) (.bool true)
   obtain ⟨W5,hW5⟩:∃ W5,W5=((((wr.setCell ⟨w.heap.size + 1,0,none⟩ (.slice X.wa t.want.length X.wc)).setCell ⟨w.heap.size + 1,1,none⟩ (.slice X.qa t.queue.length X.qc)).setCell ⟨w.heap.size + 1,2,none⟩ (.slice X.aa t.asked.length X.ac)).setCell ⟨w.heap.size + 1,3,none⟩ (.slice X.ca t.common.length X.cc)).setCell ⟨w.heap.size + 1,4,none⟩ (.bool true):=⟨_,rfl⟩
   rw [← hW5] at hts
   have hk5:BK (w.heap.size + 1) #[.slice X.wa t.want.length X.wc,.slice X.qa t.queue.length X.qc,.slice X.aa t.asked.length X.ac,.slice X.ca t.common.length X.cc,.bool true] 26 W5.drew:=hts.1
   obtain ⟨g0,g1,g2,g3,g4⟩:=BK.c5 (show BK _ #[.slice X.wa t.want.length X.wc,.slice X.qa t.queue.length X.qc,.slice X.aa t.asked.length X.ac,.slice X.ca t.common.length X.cc,.bool true] _ _ from hk5)
   obtain ⟨z0,z1,z2,z3,z4⟩:=BK.c5 (show BK _ #[.slice none 0 0,.slice none 0 0,.slice none 0 0,.slice none 0 0,.bool false] _ _ from HKr.out)
   obtain ⟨fz0,fz1,fz2,fz3,fz4⟩:=BK.f5 (HKr.out)
   have HFIN:Hid (GotTk w ⟨cl,sv,hd',wt,mo⟩ (.returned (.tuple #[.agg #[.slice X.wa t.want.length X.wc,.slice X.qa t.queue.length X.qc,.slice X.aa t.asked.length X.ac,.slice X.ca t.common.length X.cc,.bool true],.slice aa m ac,.int .i64 n,.bool true])) W5.drew):=Lib.hid (by
    rw [HGT.out]
    have hg:wr.grownBy W5.drew (some (w.heap.size + 1)):=⟨hts.2.os,hts.2.tape,hts.2.output,hts.2.size,hts.2.block⟩
    have hno:NoInt #[.slice none 0 0,.slice none 0 0,.slice none 0 0,.slice none 0 0,.bool false]:=noint_tk tk0 TkA0
    refine ⟨t,X,asked,n,aa,ac,by rw [HM.out,Tk.val,Tk.arr,hd],HI.out.store HKr.out hno hg,own_digs HM.out (own_kept HO.out hg (by omega)),by rw [← HM.out]; exact hmac,HTI.out,hd,HB.out.grown hg HB.out.size (fun j e=>by cases e; omega)⟩)
   have HW5:=Lib.hid hW5
   clear hts hW5 hk5 HTI HI HAP HT HO HE HB HXr HKr HGT HAK HAS HLN HRD HRN HLE
   go_wp2_with fail
   go_region_law (fail)
   all_goals
    go_wp2_with fail
    rw [← HW5.out]
    refine bodyPost_ret (v:=.tuple #[.agg #[.slice X.wa t.want.length X.wc,.slice X.qa t.queue.length X.qc,.slice X.aa t.asked.length X.ac,.slice X.ca t.common.length X.cc,.bool true],.slice aa m ac,.int .i64 n,.bool true]) (by simp [results,Tryz.results26,go_sem,g0,g1,g2,g3,g4]) rfl ?_
    exact HFIN.out
  | false=>
   rw [hd] at k4
   have hn40:=HRN.out t asked n HTI.out hd
   have hni:(n:Int) < 60:=by omega
   obtain ⟨t1,l,com,t2,hr⟩:=HRD.out t asked n HTI.out hd
   have HR:=Lib.hid hr
   have HC1:=Lib.hid (HAK.out t X wr HB.out HI.out hr.b hr.v)
   rw [hr.ask] at HC1
   simp only [Tk.val,Tk.arr] at HC1
   rw [hd] at HC1
   obtain ⟨p0,p1,p2,p3,p4⟩:=BK.c5 (show BK _ #[.slice ca ncl cc,.slice sa nsv sc,.slice ha nh hc,.slice wa nt wc,.int .u8 mo] _ _ from HXr.out)
   rw [hm0] at HC1
   clear hr
   obtain ⟨nl,hnl⟩:∃ n,n=l.length:=⟨_,rfl⟩
   have HNL:=Lib.hid hnl
   go_wp2_with fail
   (with_reducible refine (HC1.out).mono ?_)
   rintro e u2 ⟨X1,la,lc,rfl,hin,hdg,hlc,hb,hnw1⟩
   simp only [Tk.val,Tk.arr] at hin hdg hlc ⊢
   rw [← hnl] at hlc ⊢
   have HI2:=Lib.hid hin
   have HL2:=Lib.hid hdg
   have HAQ:Hid (∀ k,(Value.slice aa m ac).ownBlock=some k → k < wr.heap.size ∧ Apt k X1.wa t1.want):=Lib.hid (fun k e=>⟨(HO.out.lt k e).2,by
    rw [HR.out.w1]
    rcases hnw1.w with h1 | h1
    ·rw [h1]; exact (HAP.out k e).w
    ·exact apt_new h1 (HO.out.lt k e).2⟩)
   have hwz:wr.heap.size ≤ u2.heap.size:=hb.size
   have HB2:=Lib.hid (HB.out.trans (hb.mono HB.out.size))
   have HE2:=Lib.hid (HE.out.trans (hb.mono HE.out.size))
   have HT2:=Lib.hid (HT.out.below hb)
   have HO2:=Lib.hid (own_below HO.out hb)
   have HX2:=Lib.hid (HXr.out.below hb)
   have hz2:u1.heap.size < u2.heap.size:=HT2.out.lt
   obtain ⟨v2,hv2⟩:∃ v2,v2=u2.alloc (.cells #[.slice X1.wa t1.want.length X1.wc,.slice X1.qa t1.queue.length X1.qc,.slice X1.aa t1.asked.length X1.ac,.slice X1.ca t1.common.length X1.cc,.bool t1.done] 26):=⟨_,rfl⟩
   have hbv:Below u2.heap.size u2 v2:=by rw [hv2]; exact (Below.refl _ _).alloc (Nat.le_refl _) _
   have HN3:Hid (BK u2.heap.size (t1.arr X1) 26 v2):=Lib.hid (by rw [hv2]; exact BK.new _ _ _)
   have HI3:=Lib.hid (HI2.out.ahead hbv)
   have HL3:=Lib.hid (HL2.out.ahead hbv)
   have HB3:=Lib.hid (HB2.out.trans (hbv.mono HB2.out.size))
   have HE3:=Lib.hid (HE2.out.trans (hbv.mono HE2.out.size))
   have HT3:=Lib.hid (HT2.out.below hbv)
   have HO3:=Lib.hid (own_below HO2.out hbv)
   have HX3:=Lib.hid (HX2.out.below hbv)
   have HV2:=Lib.hid hv2
   have HZ2:Hid (wr.heap.size ≤ v2.heap.size):=Lib.hid (Nat.le_trans hwz hbv.size)
   clear hin hdg hb hv2 hbv hnl hnw1 HC1 HI HAP HT HO HE HB HXr HKr HI2 HL2 HB2 HE2 HT2 HO2 HX2 k0 k1 k2 k3 k4 p0 p1 p2 p3 p4 HAK
   go_upto_region 8 with (fail)
   rw [← HV2.out]
   clear HV2
   have hd2:Below v2.heap.size v2 v2.drew:=(Below.refl _ _).drew
   have HAC:=Lib.hid (HAS.out l la lc v2.drew (HB3.out.trans (hd2.mono HB3.out.size)) (HL3.out.ahead hd2) HR.out.lok HR.out.lle)
   rw [HR.out.cme,← HNL.out] at HAC
   have HLC:=Lib.hid (fun u3 ya yc (hb:Below v2.heap.size v2 u3) (hd:Digs u3.heap.size u3 ya com)=>HLN.out t1 X1 com ya yc u3 (HB3.out.trans (hb.mono HB3.out.size)) (HI3.out.ahead hb) HR.out.b1 HR.out.v1 hd HR.out.cok HR.out.cle HR.out.all)
   rw [HR.out.lrn] at HLC
   simp only [Tk.val,Tk.arr] at HLC
   have HNC:=Lib.hid (fun u3 (hb:Below v2.heap.size v2 u3)=>tk_cells (HN3.out.below hb))
   have HPC:Hid (∀ u3,Below v2.heap.size v2 u3 → u3.cell? ⟨w.heap.size,0,none⟩=some (.slice ca ncl cc) ∧ u3.cell? ⟨w.heap.size,1,none⟩=some (.slice sa nsv sc)):=Lib.hid (fun u3 hb=>by
    have hk:=HX3.out.below hb
    exact ⟨by rw [hk.cell]; rfl,by rw [hk.cell]; rfl⟩)
   have HFZ:Hid (∀ u3,Below v2.heap.size v2 u3 → (u3.frozen? ⟨u1.heap.size,0,none⟩=false ∧ u3.frozen? ⟨u1.heap.size,1,none⟩=false ∧ u3.frozen? ⟨u1.heap.size,2,none⟩=false ∧ u3.frozen? ⟨u1.heap.size,3,none⟩=false ∧ u3.frozen? ⟨u1.heap.size,4,none⟩=false) ∧ u3.cell? ⟨u1.heap.size,0,none⟩=some (.slice X.wa t.want.length X.wc) ∧ u3.cell? ⟨u1.heap.size,1,none⟩=some (.slice X.qa t.queue.length X.qc) ∧ u3.cell? ⟨u1.heap.size,2,none⟩=some (.slice X.aa t.asked.length X.ac) ∧ u3.cell? ⟨u1.heap.size,3,none⟩=some (.slice X.ca t.common.length X.cc) ∧ u3.cell? ⟨u1.heap.size,4,none⟩=some (.bool t.done)):=Lib.hid (fun u3 hb=>by
    have hk:=HT3.out.below hb
    exact ⟨⟨hk.frozen 0,hk.frozen 1,hk.frozen 2,hk.frozen 3,hk.frozen 4⟩,tk_cells hk⟩)
   obtain ⟨n0,n1,n2,n3,n4⟩:=HNC.out v2 (Below.refl _ _)
   obtain ⟨p0,p1⟩:=HPC.out v2 (Below.refl _ _)
   obtain ⟨nm,hnm⟩:∃ n,n=com.length:=⟨_,rfl⟩
   have HNM:=Lib.hid hnm
   rw [← hnm] at HLC
   clear hnm hd2 HLN HAS
   have HSK:Hid (∀ u3:World,Below v2.heap.size v2 u3 → (u3.cell? ⟨u2.heap.size,0,none⟩=some (.slice X1.wa t1.want.length X1.wc) ∧ u3.cell? ⟨u2.heap.size,1,none⟩=some (.slice X1.qa t1.queue.length X1.qc) ∧ u3.cell? ⟨u2.heap.size,2,none⟩=some (.slice X1.aa t1.asked.length X1.ac) ∧ u3.cell? ⟨u2.heap.size,3,none⟩=some (.slice X1.ca t1.common.length X1.cc) ∧ u3.cell? ⟨u2.heap.size,4,none⟩=some (.bool t1.done)) ∧ u3.cell? ⟨w.heap.size,0,none⟩=some (.slice ca ncl cc) ∧ u3.cell? ⟨w.heap.size,1,none⟩=some (.slice sa nsv sc)):=Lib.hid (fun u3 hb=>⟨HNC.out u3 hb,HPC.out u3 hb⟩)
   have HSR:Hid (∀ (u3:World) (s:Tk) (Y:TkA),Below v2.heap.size v2 u3 → ((talkW u3 u1.heap.size s Y).cell? ⟨u2.heap.size,0,none⟩=some (.slice X1.wa t1.want.length X1.wc) ∧ (talkW u3 u1.heap.size s Y).cell? ⟨u2.heap.size,1,none⟩=some (.slice X1.qa t1.queue.length X1.qc) ∧ (talkW u3 u1.heap.size s Y).cell? ⟨u2.heap.size,2,none⟩=some (.slice X1.aa t1.asked.length X1.ac) ∧ (talkW u3 u1.heap.size s Y).cell? ⟨u2.heap.size,3,none⟩=some (.slice X1.ca t1.common.length X1.cc) ∧ (talkW u3 u1.heap.size s Y).cell? ⟨u2.heap.size,4,none⟩=some (.bool t1.done)) ∧ (talkW u3 u1.heap.size s Y).cell? ⟨w.heap.size,0,none⟩=some (.slice ca ncl cc) ∧ (talkW u3 u1.heap.size s Y).cell? ⟨w.heap.size,1,none⟩=some (.slice sa nsv sc)):=Lib.hid (fun u3 s Y hb=>by
    have hg:=talkW_gr u3 u1.heap.size s Y
    have h1:=(HN3.out.below hb).grow1 hg (by omega)
    have h2:=(HX3.out.below hb).grow1 hg (by omega)
    exact ⟨tk_cells h1,by rw [h2.cell]; rfl,by rw [h2.cell]; rfl⟩)
   have hs0:=HSK.out v2.drew ((Below.refl _ _).drew)
   simp only [talkW] at HSR
   go_region_held_law (fun u3:World=>(u3.cell? ⟨u2.heap.size,0,none⟩=some (.slice X1.wa t1.want.length X1.wc) ∧ u3.cell? ⟨u2.heap.size,1,none⟩=some (.slice X1.qa t1.queue.length X1.qc) ∧ u3.cell? ⟨u2.heap.size,2,none⟩=some (.slice X1.aa t1.asked.length X1.ac) ∧ u3.cell? ⟨u2.heap.size,3,none⟩=some (.slice X1.ca t1.common.length X1.cc) ∧ u3.cell? ⟨u2.heap.size,4,none⟩=some (.bool t1.done)) ∧ u3.cell? ⟨w.heap.size,0,none⟩=some (.slice ca ncl cc) ∧ u3.cell? ⟨w.heap.size,1,none⟩=some (.slice sa nsv sc))
    (first | (with_reducible exact hs0) | (with_reducible exact hs1) | (with_reducible exact hs2) | (with_reducible exact hs3))
    (first
    | (go_simp; (with_reducible refine (HAC.out).mono ?_); rintro e u3 ⟨ya,yc,rfl,hown3,hb3⟩; (have hb3':Below v2.heap.size v2 u3:=((Below.refl _ _).drew).trans (hb3.mono (Nat.le_refl _))); (have HC3:=HLC.out u3 ya yc hb3' (ownsRow_digs hown3)); (rw [← HNM.out]); (have hs1:=HSK.out u3 hb3'); clear hown3)
    | (go_simp; (with_reducible refine HC3.mono ?_); rintro e u4 ⟨X2,rfl,hin4,hb4,hnw4⟩; (have hb4':Below v2.heap.size v2 u4:=hb3'.trans (hb4.mono hb3'.size)); (obtain ⟨⟨ff0,ff1,ff2,ff3,ff4⟩,f0,f1,f2,f3,f4⟩:=HFZ.out u4 hb4'); (have hs2:=HSK.out u4 hb4'); (have hs3:=HSR.out u4 t2 X2 hb4'); simp only [Tk.val,Tk.arr])
    | fail)
   all_goals
    obtain ⟨x4,hx4⟩:∃ x4,x4=talkW u4 u1.heap.size t2 X2:=⟨_,rfl⟩
    have hk4:=HT3.out.below hb4'
    have hg4:u4.grownBy x4 (some u1.heap.size):=by rw [hx4]; exact talkW_gr _ _ _ _
    have HT4:Hid (BK u1.heap.size (t2.arr X2) 26 x4):=Lib.hid (by rw [hx4]; exact talkW_bk hk4 _ _)
    have HI4:=Lib.hid (hin4.store hk4 (noint_tk t X) hg4)
    have hO4:=own_kept (own_below HO3.out hb4') hg4 (by omega)
    have hE4:=(HE3.out.trans (hb4'.mono HE3.out.size)).grown hg4 (HE3.out.trans (hb4'.mono HE3.out.size)).size (fun j e=>by cases e; omega)
    have hL4:=digs_store (HL3.out.ahead hb4') hk4 (noint_tk t X) hg4
    have hxz:u1.heap.size + 1 ≤ x4.heap.size:=by have:=hg4.size; have:=hk4.lt; omega
    have hvz:v2.heap.size ≤ u3.heap.size:=hb3'.size
    have HAP4:Hid (∀ k,(Value.slice aa m ac).ownBlock=some k → TkApt k t2 X2):=Lib.hid (fun k e=>by
     obtain ⟨hk,hw⟩:=HAQ.out k e
     have hku:k < u3.heap.size:=by have:=HZ2.out; omega
     refine ⟨?_,apt_new hnw4.q hku,apt_new hnw4.a hku,?_⟩
     ·rw [HR.out.w2]
      rcases hnw4.w with h1 | h1
      ·rw [h1]; exact hw
      ·exact apt_new h1 hku
     ·rcases hnw4.c with h1 | h1
      ·rw [h1]; exact apt_none _ _
      ·exact apt_new h1 hku)
    rw [HM.out] at hO4
    have hle:=HLE.out t asked n HTI.out
    obtain ⟨v',W',hrun,hown',hgr',hat'⟩:=append_digs x4 (u1.heap.size + 1) 24 (.slice aa asked.length ac) asked hO4 la l lc hL4 (by have:=HR.out.lle; omega) hxz
    rw [← HM.out] at hrun hgr' hat' hO4
    rw [← HNL.out] at hrun
    obtain ⟨va',vc',rfl,hmc'⟩:=ownsRow_sliceN hown'
    have HT5:Hid (BK u1.heap.size (t2.arr X2) 26 W'):=Lib.hid (HT4.out.grow hgr' (fun k e=>by have:=(hO4.lt k e).1; omega))
    have HI5:=Lib.hid (HI4.out.apart hgr' HAP4.out)
    have HE5:Hid (Below u1.heap.size u1 W'):=Lib.hid (hE4.grown hgr' hE4.size (fun k e=>by have:=(hO4.lt k e).1; omega))
    have HAP5:Hid (∀ k,(Value.slice va' (asked ++ l).length vc').ownBlock=some k → TkApt k t2 X2):=Lib.hid (fun k e=>by
     rcases hat' with h1 | h1
     ·exact HAP4.out k (by rw [← h1]; exact e)
     ·rw [h1] at e
      cases e
      exact HI4.out.apt (Nat.le_refl _))
    obtain ⟨m5,hm5'⟩:∃ m5,m5=(asked ++ l).length:=⟨_,rfl⟩
    rw [← hm5'] at hrun hown' hmc' HAP5
    have HM5:=Lib.hid hm5'
    have HO5:=Lib.hid hown'
    have HTI5:=Lib.hid HR.out.nxt
    have HRUN:=Lib.hid hrun
    simp only [talkW] at hx4
    rw [← hx4]
    clear hx4 hk4 hg4 HT4 HI4 hO4 hE4 hL4 HAP4 hle hrun hown' hgr' hat' hm5' hin4 hb4 hb4' hnw4 hs0 hs1 hs2 hs3 hb3 hb3' HC3 f0 f1 f2 f3 f4 ff0 ff1 ff2 ff3 ff4 n0 n1 n2 n3 n4 p0 p1
    go_wp2_with (at_builtin; refine Lib.wpList_append_run _ rfl _ _ _ _ rfl _ _ rfl rfl _ _ HRUN.out ?_)
    go_roundw
    case rel=>exact ⟨n + 1,m5,t2,X2,asked ++ l,va',vc',rfl,rfl,by go_num,by omega,hmc',HM5,HTI5,HI5,HAP5,HT5,HO5,HE5⟩
    case measure=>simp [intOf] <;> omega
end Go.Proofs.YtdeggadmbjkpfaaGreat
