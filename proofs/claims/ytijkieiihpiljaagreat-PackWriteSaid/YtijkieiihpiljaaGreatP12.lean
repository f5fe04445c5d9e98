/- Joined texts: PkAv, PkAw. -/
import Derived.Test.YtijkieiihpiljaaGreatP11
import Derived.Test.YtijkieiihpiljaaGreatP4
import Derived.Test.YtijkieiihpiljaaGreatP7
import Derived.Test.YtijkieiihpiljaaGreatK5
/- Packs on paper: the example of the chapter. -/
set_option maxRecDepth 100000
set_option maxHeartbeats 16000000
open Go.Lib (hid)
namespace Go.Proofs.YtijkieiihpiljaaGreat
open Go.RowKit Go.Shelf
set_option linter.unusedVariables false
def obH:Ob:=⟨1,[104,105],[],(0,0),[],[],0,[]⟩
def txH:List UInt8:=[1,2,104,105]
def dgH:Int × Int:=digS txH
def itH:Itm:=⟨dgH,txH⟩
theorem encH:encodeS obH=(txH,0):=by decide +kernel
theorem putH:putS [] obH=([itH],dgH,0):=by
 unfold putS
 rw [encH]
 rfl
def bodyH:List UInt8:=[1] ++ (beD dgH ++ ([0] ++ ([4] ++ txH)))
def pkH:List UInt8:=sealS bodyH
theorem packH:packS [itH] [dgH] []=(pkH,0):=by decide +kernel
theorem entH:entriesS pkH=([⟨dgH,0,(0,0),19,4⟩],0):=by
 have h1:(entriesS pkH).2=0:=by decide +kernel
 have h2:(entriesS pkH).1.map (fun e=>(e.d,e.kind,e.base,e.off,e.len))=[(dgH,0,(0,0),19,4)]:=by decide +kernel
 rcases hE:entriesS pkH with ⟨l,k⟩
 rw [hE] at h1 h2
 simp only at h1 h2
 subst h1
 match l,h2 with
 | [],h2=>simp at h2
 | [⟨d,k,⟨b1,b2⟩,o,n⟩],h2=>
  simp only [List.map_cons,List.map_nil,List.cons.injEq,Prod.mk.injEq,and_true] at h2
  obtain ⟨rfl,rfl,⟨rfl,rfl⟩,rfl,rfl⟩:=h2
  rfl
 | _ :: _ :: _,h2=>simp at h2
theorem unpH:unpackS pkH []=([itH],0):=by decide +kernel
theorem eql_pe (x y:Pe) (W:World):(binOp .eql 53 (peV x) (peV y)).run Tryz.prog W = .ok (.bool (decide (x=y))) W:=by
 obtain ⟨⟨x1,x2⟩,xk,⟨x3,x4⟩,x5,x6⟩:=x
 obtain ⟨⟨y1,y2⟩,yk,⟨y3,y4⟩,y5,y6⟩:=y
 unfold peV
 simp only
 rw [run_eql_struct,run_equalIn_struct W 9999 53 _ _ (by kernel_rfl) (by kernel_rfl)]
 have hf : (Tryz.prog.fieldsOf 53).toList = [{ name := "Digest", type := 41, offset := 0, embedded := false, tag := "", pkgPath := "", byteOffset := 0 }, { name := "Kind", type := 3, offset := 2, embedded := false, tag := "", pkgPath := "", byteOffset := 16 }, { name := "Base", type := 41, offset := 3, embedded := false, tag := "", pkgPath := "", byteOffset := 24 }, { name := "Offset", type := 3, offset := 5, embedded := false, tag := "", pkgPath := "", byteOffset := 40 }, { name := "Length", type := 3, offset := 6, embedded := false, tag := "", pkgPath := "", byteOffset := 48 }] := by kernel_rfl
 rw [hf]
 have p0:∀ (a b c d e f g:Int) (V:World),(Go.part 41 #[.int .u64 a,.int .u64 b,.int .i64 c,.int .u64 d,.int .u64 e,.int .i64 f,.int .i64 g] 0).run Tryz.prog V = .ok (.agg #[.int .u64 a,.int .u64 b]) V:=fun a b c d e f g V=>by kernel_rfl
 have p1:∀ (a b c d e f g:Int) (V:World),(Go.part 3 #[.int .u64 a,.int .u64 b,.int .i64 c,.int .u64 d,.int .u64 e,.int .i64 f,.int .i64 g] 2).run Tryz.prog V = .ok (.int .i64 c) V:=fun a b c d e f g V=>by kernel_rfl
 have p2:∀ (a b c d e f g:Int) (V:World),(Go.part 41 #[.int .u64 a,.int .u64 b,.int .i64 c,.int .u64 d,.int .u64 e,.int .i64 f,.int .i64 g] 3).run Tryz.prog V = .ok (.agg #[.int .u64 d,.int .u64 e]) V:=fun a b c d e f g V=>by kernel_rfl
 have p3:∀ (a b c d e f g:Int) (V:World),(Go.part 3 #[.int .u64 a,.int .u64 b,.int .i64 c,.int .u64 d,.int .u64 e,.int .i64 f,.int .i64 g] 5).run Tryz.prog V = .ok (.int .i64 f) V:=fun a b c d e f g V=>by kernel_rfl
 have p4:∀ (a b c d e f g:Int) (V:World),(Go.part 3 #[.int .u64 a,.int .u64 b,.int .i64 c,.int .u64 d,.int .u64 e,.int .i64 f,.int .i64 g] 6).run Tryz.prog V = .ok (.int .i64 g) V:=fun a b c d e f g V=>by kernel_rfl
 have q0:=fun (a b c d:Int) V=>eqD_run 9997 a b c d V
 have q1:=fun (a b:Int) V=>run_equalIn_int (P:=Tryz.prog) V 9998 3 .i64 .i64 a b Tryz.underlying3
 simp only [Op.eqFields,Sem.run_bind,Sem.run_ite,p0,p1,p2,p3,p4,q0,q1,Result.andThen_ok]
 by_cases h1:x1=y1 <;> by_cases h2:x2=y2 <;> by_cases h3:xk=yk <;> by_cases h4:x3=y3 <;> by_cases h5:x4=y4 <;> by_cases h6:x5=y5 <;> by_cases h7:x6=y6 <;> (simp [h1,h2,h3,h4,h5,h6,h7]; try omega)
theorem obH_b:ObB obH:=⟨by decide,by simp [obH],by simp [obH],by decide,by simp [obH],by decide,by decide,by decide,by decide⟩
theorem dgH_ok:OkD dgH:=digS_ok txH
theorem lenH:pkH.length=39:=by decide +kernel
section
attribute [local irreducible] dgH pkH
theorem poolH {c:Nat} (h:1<=c):PkPool [itH] c:=⟨fun i j hi hj hij=>by simp at hi hj; omega,fun x hx=>by rw [List.mem_singleton.1 hx]; exact dgH_ok,fun x hx=>by rw [List.mem_singleton.1 hx]; simp [itH,txH],by simp,by simpa using h⟩
theorem awake10_any (w:World):Calls Tryz.prog 11 #[] w fun e w'=>e = .returned (.bool true)/\Below w.heap.size w w':=by
 have HP:=hid (fun W=>put_any none [] 0 obH none 0 none 0 W ⟨Its.nil _ _ _,Nat.le_refl _,by simp,by simp⟩ (fun i j hi=>by simp at hi) (obH_b.inW (Ents.nil _ _ _) (Digs.nil _ _ _) (Nat.le_refl _)))
 rw [putH] at HP
 have HK:=hid (fun W a c b (h:Its W.heap.size W a [itH]) (hc:1<=c) (hk:BK b #[.int .u64 dgH.1,.int .u64 dgH.2] 41 W)=>pack_any (xs:=[itH]) (l:=[dgH]) (base:=[]) (pa:=a) (la:=some ⟨b,0,none⟩) (ba:=none) (pc:=c) (lc:=1) (bc:=0) (w:=W) (poolH hc) h (digs1 hk) (Digs.nil _ _ _) (fun d hd=>by rw [List.mem_singleton.1 hd]; exact dgH_ok) (by simp) (by simp) (by simp))
 rw [packH] at HK
 have HE:=hid (fun W=>entries_any pkH W (by rw [lenH]; decide))
 rw [entH] at HE
 have HU:=hid (fun W=>punpack_any pkH [] none 0 W (by rw [lenH]; decide) (Its.nil _ _ _) ⟨fun i j hi=>by simp at hi,by simp,by simp,by simp,by simp,by simp⟩ (by simp))
 rw [unpH] at HU
 have HS:=hid (fun W a b c c' (h:Its W.heap.size W a [itH]) (h':Its W.heap.size W b [itH])=>same_any a b [itH] [itH] c c' W h h' (by simp) (by simp))
 rw [decide_eq_true rfl] at HS
 have hpl:pkH.length=39:=lenH
 have HQ:=hid (fun W=>eql_pe ⟨dgH,0,(0,0),19,4⟩ ⟨dgH,0,(0,0),19,4⟩ W)
 rw [decide_eq_true rfl] at HQ
 unfold peV at HQ
 simp only [obH,List.length_nil,List.length_cons,Nat.zero_add] at HP HK HU HS
 generalize pkH=P at HK HE HU hpl
 obtain ⟨IT,hit⟩:∃ x,x=itH:=⟨_,rfl⟩
 rw [<-hit] at HP HK HU HS
 obtain ⟨⟨D1,D2⟩,hd⟩:∃ x,x=dgH:=⟨_,rfl⟩
 rw [<-hd] at HP HK HE HQ
 simp only at HP HK HE HQ
 clear hit hd
 unfold GotPut at HP
 unfold GotE at HE
 unfold GotPE at HU
 go_enter Tryz.func11,Tryz.ntmps11
 go_wp2_with fail
 refine (HP.out _).mono ?_
 rintro e u1 ⟨pa,pc,rfl,hits,hcap,hfr,hb⟩
 simp only [List.length_cons,List.length_nil,Nat.zero_add] at hcap ⊢
 have HB1:Hid (Below w.heap.size w u1):=hid (((Below.refl _ w).alloc (Nat.le_refl _) _).trans (hb.mono (by simp)))
 obtain ⟨v1,hv1⟩:∃ v1,v1=(u1.alloc (.cells #[.int .u64 D1,.int .u64 D2] 41)).alloc (.cells #[.int .u64 D1,.int .u64 D2] 41):=⟨_,rfl⟩
 have hbv:Below u1.heap.size u1 v1:=by rw [hv1]; exact ((Below.refl _ _).alloc (Nat.le_refl _) _).alloc (by simp) _
 have HKD:Hid (BK u1.heap.size #[.int .u64 D1,.int .u64 D2] 41 v1):=hid (by rw [hv1]; exact (BK.new _ _ _).alloc _)
 have HITS:=hid (hits.ahead hbv)
 have HC:=hid (HK.out v1 pa pc (u1.heap.size + 1) HITS.out hcap (by rw [hv1]; exact BK.new2 _ _ _ _))
 have HBV:=hid (HB1.out.trans (hbv.mono HB1.out.size))
 rw [hv1] at HC
 have HV:=hid hv1
 clear hits hcap hfr hb hbv hv1 HP HK
 go_wp2_with fail
 refine (HC.out).mono ?_
 rintro e u2 ⟨rfl,hb⟩
 rw [<-HV.out] at hb
 have HB2:=hid (HBV.out.trans (hb.mono HBV.out.size))
 have HKD2:=hid (HKD.out.below hb)
 have HIT2:=hid (HITS.out.ahead hb)
 clear hb HC HV HB1 HBV HKD HITS
 go_wp2_with fail
 refine (HE.out _).mono ?_
 rintro e u3 ⟨ea,ec,rfl,hg,hb⟩
 simp only [List.length_cons,List.length_nil,Nat.zero_add] at hg ⊢
 have HG3:=hid hg
 have HB3:=hid (HB2.out.trans (hb.mono HB2.out.size))
 have HKD3:=hid (HKD2.out.below hb)
 have HIT3:=hid (HIT2.out.ahead hb)
 clear hb hg HE HB2 HKD2 HIT2
 go_wp2_with fail
 refine (HU.out _).mono ?_
 rintro e u4 ⟨qa,qc,rfl,hits,hcap,hfr,hb⟩
 simp only [List.length_cons,List.length_nil,Nat.zero_add] at hcap ⊢
 have HQI:=hid hits
 have HB4:=hid (HB3.out.trans (hb.mono HB3.out.size))
 have HKD4:=hid (HKD3.out.below hb)
 have HIT4:=hid (HIT3.out.ahead hb)
 have HG4:=hid (HG3.out.ahead hb)
 clear hb hits hcap hfr HU HB3 HKD3 HIT3 HG3
 have HSC:=hid (fun W (hW:Below u4.heap.size u4 W)=>HS.out W pa qa pc qc (HIT4.out.ahead hW) (HQI.out.ahead hW))
 have HRB:=hid (fun d os=>Calls.regrown_of (w:=u4) (d:=d) (os:=os) (HSC.out _ (below_regrown u4 d os)))
 have qe:∀ W,(binOp .eql 53 (.agg #[.int .u64 D1,.int .u64 D2,.int .i64 0,.int .u64 0,.int .u64 0,.int .i64 19,.int .i64 4]) (.agg #[.int .u64 D1,.int .u64 D2,.int .i64 0,.int .u64 0,.int .u64 0,.int .i64 19,.int .i64 4])).run Tryz.prog W = .ok (.bool true) W:=HQ.out
 obtain ⟨bk,ofk,hek,hblt,q0,q1,q2,q3,q4,q5,q6⟩:=pe_cells HG4.out (k:=0) (by simp)
 subst hek
 simp only [List.getElem_cons_zero,Nat.zero_mul,Nat.add_zero] at q0 q1 q2 q3 q4 q5 q6
 have q5:u4.cell? ⟨bk,ofk + 5,none⟩=some (.int .i64 19):=q5
 have q6:u4.cell? ⟨bk,ofk + 6,none⟩=some (.int .i64 4):=q6
 have d0:u4.cell? ⟨u1.heap.size,0,none⟩=some (.int .u64 D1):=by rw [HKD4.out.cell]; rfl
 have d1:u4.cell? ⟨u1.heap.size,1,none⟩=some (.int .u64 D2):=by rw [HKD4.out.cell]; rfl
 have rd0:=cell_regrown d0
 have rd1:=cell_regrown d1
 have r0:=cell_regrown q0
 have r1:=cell_regrown q1
 have r2:=cell_regrown q2
 have r3:=cell_regrown q3
 have r4:=cell_regrown q4
 have r5:=cell_regrown q5
 have r6:=cell_regrown q6
 have hsz:(⟨P.toArray⟩:ByteArray).size=39:=by rw [ba_len]; exact hpl
 clear HSC HKD4 HIT4 HQI HG4 HS HQ hblt
 go_upto_region 6 with (fail)
 refine wp_region_quiet_below (by kernel_rfl) (by kernel_rfl) ?_
 repeat (any_goals (first | go_big_quiet_step (first | (with_reducible exact HRB.out _ _)) | quiet_step (first | (with_reducible exact HRB.out _ _))))
 refine wpQuiet_nil ?_
 intro w5 hw5
 have hb5:=below_rg hw5
 clear hw5
 go_wp2_with fail
 go_ret
 exact ⟨rfl,HB4.out.trans (hb5.mono HB4.out.size)⟩
end
end Go.Proofs.YtijkieiihpiljaaGreat
