/- Joined texts: PkCp, PkNr, PkFi, PkUn. -/
import Derived.Test.YtijkieiihpiljaaGreatP3
import Derived.Test.YtijkieiihpiljaaGreatK4
import Derived.Test.YtijkieiihpiljaaGreatK8
/- Packs: the reader's compute. -/
set_option maxRecDepth 100000
set_option maxHeartbeats 16000000
open Go.Lib (hid)
namespace Go.Proofs.YtijkieiihpiljaaGreat
open Go.RowKit Go.Shelf
set_option linter.unusedVariables false
theorem dropTake_len (s:List UInt8) (i n:Nat) (h:i + n<=s.length):((s.drop i).take n).length=n:=by rw [List.length_take,List.length_drop]; omega
theorem apply_len {a A:List UInt8} {l:List Dop} (h:applyD a l=(A,0)):(A.length:Int)<=65536:=by
 by_cases hc:checkD l a.length=0
 ·have hf:=dfit_of hc
  rw [applyD_ok hc] at h
  have e1:=congrArg Prod.fst h
  simp only at e1
  have:=hf.siz l.length
  rw [List.take_length,e1] at this
  omega
 ·rw [applyD_bad hc] at h
  have e1:=congrArg Prod.snd h
  exact absurd e1 hc
theorem right_len {t:List UInt8} {d:Int × Int} {b:Nat} (h:t.length<=b):(pcompS.rightS t d).1.length<=b:=by
 unfold pcompS.rightS
 split
 ·simp
 ·split
  ·simp
  ·exact h
theorem datI_len {R:Rdr} (hR:R.Ok) (d:Int × Int):((datI R.xs d).1.length:Int)<=140737488355328:=by
 unfold datI
 cases hf:R.xs.find? (fun x=>decide (x.d=d)) with
 | none=>simp
 | some x=>exact hR.xd x (List.mem_of_find?_eq_some hf)
theorem dat_len {R:Rdr} (hR:R.Ok):∀ (n i:Nat),i < n->i < R.l.length->((R.dat i).1.length:Int)<=140737488355328
 | 0,i,h,_=>by omega
 | n + 1,i,h,hi=>by
  have hS:((srcS R.xs R.l R.dat i R.l[i].base).1.length:Int)<=140737488355328:=by
   unfold srcS
   cases hx:idxE R.l R.l[i].base with
   | none=>exact datI_len hR _
   | some j=>
    simp only
    by_cases hj:j < i
    ·rw [if_pos hj]; exact dat_len hR n j (by omega) (by omega)
    ·rw [if_neg hj]; exact datI_len hR _
  obtain ⟨k0,hek⟩:=hR.ents.at_ _ (List.getElem_mem hi)
  have hpe:=(entryS_at hek).1
  have hlen:=hpe.tl
  have hd:R.dat i=pcompS R.s (srcS R.xs R.l R.dat i R.l[i].base) R.l[i]:=datS_eq hi
  rw [hd]
  generalize srcS R.xs R.l R.dat i R.l[i].base=sr at *
  generalize R.l[i]=x at *
  have h0:((R.s.drop x.off).take x.len).length<=65536:=by rw [List.length_take]; omega
  unfold pcompS
  split
  ·split
   ·exact hS
   ·split
    ·simp
    ·split
     ·simp
     ·rename_i h4
      have h5:applyD sr.1 (decD ((R.s.drop x.off).take x.len)).1=((applyD sr.1 (decD ((R.s.drop x.off).take x.len)).1).1,0):=by
       simp only [ne_eq,Decidable.not_not] at h4
       rw [<-h4]
      have:=apply_len h5
      have:=right_len (t:=(applyD sr.1 (decD ((R.s.drop x.off).take x.len)).1).1) (d:=x.d) (b:=65536) (by omega)
      omega
  ·have:=right_len (d:=x.d) h0
   omega
theorem src_len {R:Rdr} (hR:R.Ok) (i:Nat) (hi:i<=R.l.length) (d:Int × Int):((srcS R.xs R.l R.dat i d).1.length:Int)<=140737488355328:=by
 unfold srcS
 cases hx:idxE R.l d with
 | none=>exact datI_len hR _
 | some j=>
  simp only
  by_cases hj:j < i
  ·rw [if_pos hj]; exact dat_len hR (j + 1) j (by omega) (by omega)
  ·rw [if_neg hj]; exact datI_len hR _
theorem comp_of (R:Rdr) (hR:R.Ok) (i:Nat) (hi:i < R.l.length) (hget:∀ j,j < i->GetS R j):CompS R i:=by
 intro K w h
 have hil:(i:Int)<=1000:=by have:=hR.ll; omega
 have hbl:=h.lt
 have hile:=Nat.le_of_lt hi
 have HSRC:=hid (source_of R hR i hi hget)
 obtain ⟨k0,hek⟩:=hR.ents.at_ _ (List.getElem_mem hi)
 have hpe:=(entryS_at hek).1
 have hsl:=hR.sl
 have hroom:R.l[i].off + R.l[i].len<=R.s.length:=by have:=hpe.hi; rw [List.length_take] at this; omega
 have hlen:=hpe.tl
 have hkd:=hpe.kind
 have hdat:R.dat i=pcompS R.s (srcS R.xs R.l R.dat i R.l[i].base) R.l[i]:=datS_eq hi
 obtain ⟨bl,ofl,hea,hlt,q0,q1,q2,q3,q4,q5,q6⟩:=pe_cells h.ents hi
 obtain ⟨T,er,hSR⟩:∃ T er,R.dat i=(T,er):=⟨_,_,rfl⟩
 have HSR:=hid (hSR.symm.trans hdat)
 rw [hSR]
 generalize R.l[i]=x at *
 obtain ⟨⟨d1,d2⟩,kd,⟨b1,b2⟩,off,len⟩:=x
 simp only at q0 q1 q2 q3 q4 q5 q6 hroom hlen hkd HSRC HSR
 unfold GotRd foundV
 simp only
 clear hSR hdat hek hpe hget
 -- the worlds
 obtain ⟨wa,hwa⟩:∃ wa,wa=w.alloc (.cells #[.string ⟨#[]⟩,.int .i64 0] 98):=⟨_,rfl⟩
 have hba:Below w.heap.size w wa:=by rw [hwa]; exact (Below.refl _ _).alloc (Nat.le_refl _) _
 have hsa:wa.heap.size=w.heap.size + 1:=by rw [hwa]; simp
 obtain ⟨wb,hwb⟩:∃ wb,wb=wa.alloc (.cells #[.int .u64 d1,.int .u64 d2,.int .i64 kd,.int .u64 b1,.int .u64 b2,.int .i64 (off:Int),.int .i64 (len:Int)] 53):=⟨_,rfl⟩
 have hbb:Below wa.heap.size wa wb:=by rw [hwb]; exact (Below.refl _ _).alloc (Nat.le_refl _) _
 have HRb:=hid ((show BK w.heap.size #[.string ⟨#[]⟩,.int .i64 0] 98 wa by rw [hwa]; exact BK.new _ _ _).below hbb)
 have HEb:Hid (BK (w.heap.size + 1) #[.int .u64 d1,.int .u64 d2,.int .i64 kd,.int .u64 b1,.int .u64 b2,.int .i64 (off:Int),.int .i64 (len:Int)] 53 wb):=hid (by rw [hwb,<-hsa]; exact BK.new _ _ _)
 have HBW:=hid (hba.trans (hbb.mono hba.size))
 have HIb:=hid ((h.below hba).below hbb)
 have hbxa:=(h.below hba).box
 obtain ⟨x0,x1,x2,x3,x4⟩:=BK.c5 (show BK _ #[.string ⟨R.s.toArray⟩,.slice R.ea R.l.length R.ec,.slice R.pa R.xs.length R.pc,.map (some R.ib),.map (some (R.ib + 1))] _ _ from hbxa)
 have hp:∀ j v,w.cell? ⟨bl,ofl + j,none⟩=some v->wa.cell? ⟨bl,ofl + j,none⟩=some v:=fun j v hv=>(hba.cell (p:=⟨bl,ofl + j,none⟩) (by simp; omega)).trans hv
 have r0:=hp (i * 7) _ q0
 have r1:=hp (i * 7 + 1) _ (by rw [<-Nat.add_assoc]; exact q1)
 have r2:=hp (i * 7 + 2) _ (by rw [<-Nat.add_assoc]; exact q2)
 have r3:=hp (i * 7 + 3) _ (by rw [<-Nat.add_assoc]; exact q3)
 have r4:=hp (i * 7 + 4) _ (by rw [<-Nat.add_assoc]; exact q4)
 have r5:=hp (i * 7 + 5) _ (by rw [<-Nat.add_assoc]; exact q5)
 have r6:=hp (i * 7 + 6) _ (by rw [<-Nat.add_assoc]; exact q6)
 simp only [<-Nat.add_assoc] at r0 r1 r2 r3 r4 r5 r6
 rw [hea] at x1
 obtain ⟨nl,hnl⟩:∃ nl,nl=R.l.length:=⟨_,rfl⟩
 have hii:i < nl:=by rw [hnl]; exact hi
 rw [<-hnl] at x1
 rw [hwa] at x0 x1 x2 x3 x4 r0 r1 r2 r3 r4 r5 r6 hwb
 have HWB:=hid hwb
 clear hwa hwb hba hbb hsa hbxa hp q0 q1 q2 q3 q4 q5 q6 hnl h hi
 obtain ⟨pe,hpe⟩:∃ pe,pe=off + len:=⟨_,rfl⟩
 have hwr:IntKind.i64.wrap ((off:Int) + (len:Int))=(pe:Int):=by rw [wrap_i64 (by omega) (by omega)]; omega
 have hsm:=fun W=>sl_mid R.s off pe (by omega) (by omega) W
 have hex:(⟨R.s.toArray⟩:ByteArray).extract off pe=⟨((R.s.drop off).take len).toArray⟩:=by rw [ex_mid,hpe,Nat.add_sub_cancel_left]
 rw [show pe - off=len by omega] at hsm
 have hdl:=dropTake_len R.s off len hroom
 obtain ⟨D0,hD0⟩:∃ D0,D0=(R.s.drop off).take len:=⟨_,rfl⟩
 have hss:=ba_len R.s
 rw [<-hD0] at hsm hex hdl
 have HD0:=hid hD0
 clear hD0 hpe
 go_enter Tryz.func91,Tryz.ntmps91
 go_wp2_with fail
 rw [<-HWB.out]
 clear HWB x0 x1 x2 x3 x4 r0 r1 r2 r3 r4 r5 r6
 have hbx:=HIb.out.box
 obtain ⟨x0,x1,x2,x3,x4⟩:=BK.c5 (show BK _ #[.string ⟨R.s.toArray⟩,.slice R.ea R.l.length R.ec,.slice R.pa R.xs.length R.pc,.map (some R.ib),.map (some (R.ib + 1))] _ _ from hbx)
 obtain ⟨e0,e1,e2,e3,e4,e5,e6⟩:=BK.c7 (show BK _ #[.int .u64 d1,.int .u64 d2,.int .i64 kd,.int .u64 b1,.int .u64 b2,.int .i64 (off:Int),.int .i64 (len:Int)] _ _ from HEb.out)
 obtain ⟨wc,hwc⟩:∃ wc,wc=wb.drew:=⟨_,rfl⟩
 have hcd:Below wb.heap.size wb wc:=by rw [hwc]; exact (Below.refl _ _).drew
 have HRv:=hid (HRb.out.below hcd)
 have HEv:=hid (HEb.out.below hcd)
 have HIv:=hid (HIb.out.below hcd)
 have HGv:Hid (w.grownBy wc (some (R.ib + 1))):=hid (below_grownBy (HBW.out.trans (hcd.mono HBW.out.size)))
 have HWC:=hid hwc
 clear hcd hwc hbx HRb HEb HIb HBW
 go_region
 rw [<-HWC.out]
 clear HWC x0 x1 x2 x3 x4 e0 e1 e2 e3 e4 e5 e6 hsm hex
 obtain ⟨e0,e1,e2,e3,e4,e5,e6⟩:=BK.c7 (show BK _ #[.int .u64 d1,.int .u64 d2,.int .i64 kd,.int .u64 b1,.int .u64 b2,.int .i64 (off:Int),.int .i64 (len:Int)] _ _ from HEv.out)
 rcases hkd with rfl | rfl
 ·have HT:Hid ((T,er)=pcompS.rightS D0 (d1,d2)):=hid (by rw [HSR.out,HD0.out]; unfold pcompS; rw [if_neg (by simp)])
  obtain ⟨D,hDD⟩:∃ D,D=D0:=⟨_,rfl⟩
  rw [<-hDD] at HT hdl ⊢
  have hDl:(D.length:Int)<=65536:=by omega
  clear hDD HSRC HSR HD0
  have HDE:=hid (decode_any D wc (by omega))
  have HOF:=hid (fun W=>of_any D W (by omega))
  obtain ⟨o,oe,hoo⟩:∃ o oe,decodeS D=(o,oe):=⟨_,_,rfl⟩
  have HRT:Hid ((T,er)=if oe ≠ 0 then ([],13) else if digS D ≠ (d1,d2) then ([],15) else (D,0)):=hid (by have h:=HT.out; unfold pcompS.rightS at h; rw [hoo] at h; exact h)
  rw [hoo] at HDE
  simp only at HDE
  clear hoo HT
  go_wp2_with fail
  (with_reducible refine (HDE.out).mono ?_)
  rintro e u ⟨ea,ec,pa,pc,rfl,hob,hb⟩
  have hr:=HRv.out.below hb
  have he:=HEv.out.below hb
  have hi:=HIv.out.below hb
  have hg:=gtrans HGv.out (below_grownBy (b:=R.ib + 1) hb)
  have hws:=(gtrans HGv.out (below_grownBy (b:=R.ib + 1) hb)).size
  obtain ⟨kind,data,ents,⟨t1,t2⟩,pars,author,time,msg⟩:=o
  simp only [Ob.val]
  generalize ents.length=ne
  generalize pars.length=np
  clear HDE hob hb HRv HEv HIv HGv
  by_cases hoe:oe=0
  case neg=>
   have hne:(oe != 0)=true:=by simpa using hoe
   have HT:Hid ((T,er)=(([]:List UInt8),(13:Int))):=hid (by rw [HRT.out,if_pos hoe])
   have hte:=HT.out
   simp only [Prod.mk.injEq] at hte
   obtain ⟨hte1,hte2⟩:=hte
   subst hte1
   subst hte2
   clear HT
   have hra:=hr.alloc (.cells #[.int .i64 kind,.string ⟨data.toArray⟩,.slice ea ne ec,.int .u64 t1,.int .u64 t2,.slice pa np pc,.string ⟨author.toArray⟩,.int .i64 time,.string ⟨msg.toArray⟩] 56)
   have hia:=hi.alloc (.cells #[.int .i64 kind,.string ⟨data.toArray⟩,.slice ea ne ec,.int .u64 t1,.int .u64 t2,.slice pa np pc,.string ⟨author.toArray⟩,.int .i64 time,.string ⟨msg.toArray⟩] 56)
   have hga:w.grownBy (u.alloc (.cells #[.int .i64 kind,.string ⟨data.toArray⟩,.slice ea ne ec,.int .u64 t1,.int .u64 t2,.slice pa np pc,.string ⟨author.toArray⟩,.int .i64 time,.string ⟨msg.toArray⟩] 56)) (some (R.ib + 1)):=gtrans hg (World.grownBy_alloc _ _ _)
   obtain ⟨r0,r1⟩:=BK.c2 (show BK _ #[.string ⟨#[]⟩,.int .i64 0] _ _ from hra)
   obtain ⟨fr0,fr1⟩:=BK.f2 (hra)
   clear HRT hoe
   go_wp2_with fail
   obtain ⟨W9,hW9⟩:∃ W9,W9=putF (u.alloc (.cells #[.int .i64 kind,.string ⟨data.toArray⟩,.slice ea ne ec,.int .u64 t1,.int .u64 t2,.slice pa np pc,.string ⟨author.toArray⟩,.int .i64 time,.string ⟨msg.toArray⟩] 56)) w.heap.size [] 13:=⟨_,rfl⟩
   have hr9:=putF_law hra [] 13
   have hi9:=Rdr.In.putF hia (n:=w.heap.size) (by omega) [] 13
   have hg9:=putF_grown hga (Nat.le_refl _) [] 13
   rw [<-hW9] at hr9 hi9 hg9
   unfold putF at hW9
   rw [<-hW9]
   clear hW9
   obtain ⟨z0,z1⟩:=BK.c2 (show BK _ #[.string ⟨([]).toArray⟩,.int .i64 13] _ _ from hr9)
   refine bodyPost_ret (v:=.agg #[.string ⟨([]).toArray⟩,.int .i64 13]) (by simp [results,Tryz.results91,go_sem,z0,z1]) rfl ?_
   exact ⟨rfl,⟨_,hi9,(fun _ _=>rfl)⟩,hg9⟩
  case pos=>
  subst hoe
  have HRT2:Hid ((T,er)=if digS D ≠ (d1,d2) then ([],15) else (D,0)):=hid (by rw [HRT.out,if_neg (by simp)])
  obtain ⟨u2,hu2⟩:∃ u2,u2=(u.alloc (.cells #[.int .i64 kind,.string ⟨data.toArray⟩,.slice ea ne ec,.int .u64 t1,.int .u64 t2,.slice pa np pc,.string ⟨author.toArray⟩,.int .i64 time,.string ⟨msg.toArray⟩] 56)):=⟨_,rfl⟩
  have hbu:Below u.heap.size u u2:=by rw [hu2]; exact (Below.refl _ _).alloc (Nat.le_refl _) _
  have hr2:=hr.below hbu
  have he2:=he.below hbu
  have hi2:=hi.below hbu
  have hg2:=gtrans hg (below_grownBy (b:=R.ib + 1) hbu)
  have HU2:=hid hu2
  obtain ⟨D1,D2,hdd⟩:∃ D1 D2,digS D=(D1,D2):=⟨_,_,rfl⟩
  rw [hdd] at HOF HRT2
  simp only at HOF
  have hqn:=fun W=>neq_dig D1 D2 d1 d2 W
  have HRO:=hid (fun d os=>Calls.regrown_of (w:=u2) (d:=d) (os:=os) (HOF.out _))
  obtain ⟨x0,x1,x2,x3,x4,x5,x6⟩:=BK.c7 (show BK _ #[.int .u64 d1,.int .u64 d2,.int .i64 0,.int .u64 b1,.int .u64 b2,.int .i64 (off:Int),.int .i64 (len:Int)] _ _ from he2)
  have f0:=cell_regrown x0
  have f1:=cell_regrown x1
  clear hu2 hbu hr he hi hg HRT HOF hdd he2
  by_cases hne:(D1,D2)=(d1,d2)
  case neg=>
   have hb:(D1 == d1 && D2 == d2)=false:=by
    cases h:(D1 == d1 && D2 == d2) with
    | false=>rfl
    | true=>exact absurd (by simp only [Bool.and_eq_true,beq_iff_eq] at h; rw [h.1,h.2]) hne
   have HT:Hid ((T,er)=(([]:List UInt8),(15:Int))):=hid (by rw [HRT2.out,if_pos hne])
   have hte:=HT.out
   simp only [Prod.mk.injEq] at hte
   obtain ⟨hte1,hte2⟩:=hte
   subst hte1
   subst hte2
   clear HT
   rw [hb] at hqn
   simp only [Bool.not_false] at hqn
   clear HRT2 hne hb
   go_upto_region 16 with (fail)
   rw [<-HU2.out]
   refine wp_region_quiet_below (by kernel_rfl) (by kernel_rfl) ?_
   repeat (any_goals (first | go_big_quiet_step (first | (with_reducible exact HRO.out _ _)) | quiet_step (first | (with_reducible exact HRO.out _ _))))
   refine wpQuiet_nil ?_
   intro w4 hw4
   have hb4:=below_rg hw4
   have hr4:=hr2.below hb4
   have hi4:=hi2.below hb4
   have hg4:=gtrans hg2 (below_grownBy (b:=R.ib + 1) hb4)
   clear hw4 HU2 x0 x1 x2 x3 x4 x5 x6 f0 f1 HRO hqn
   obtain ⟨r0,r1⟩:=BK.c2 (show BK _ #[.string ⟨#[]⟩,.int .i64 0] _ _ from hr4)
   obtain ⟨fr0,fr1⟩:=BK.f2 (hr4)
   go_wp2_with fail
   obtain ⟨W9,hW9⟩:∃ W9,W9=putF w4 w.heap.size [] 15:=⟨_,rfl⟩
   have hr9:=putF_law hr4 [] 15
   have hi9:=Rdr.In.putF hi4 (n:=w.heap.size) (by omega) [] 15
   have hg9:=putF_grown hg4 (Nat.le_refl _) [] 15
   rw [<-hW9] at hr9 hi9 hg9
   unfold putF at hW9
   rw [<-hW9]
   clear hW9
   obtain ⟨z0,z1⟩:=BK.c2 (show BK _ #[.string ⟨([]).toArray⟩,.int .i64 15] _ _ from hr9)
   refine bodyPost_ret (v:=.agg #[.string ⟨([]).toArray⟩,.int .i64 15]) (by simp [results,Tryz.results91,go_sem,z0,z1]) rfl ?_
   exact ⟨rfl,⟨_,hi9,(fun _ _=>rfl)⟩,hg9⟩
  case pos=>
  have hb:(D1 == d1 && D2 == d2)=true:=by
   simp only [Prod.mk.injEq] at hne
   simp [hne.1,hne.2]
  have HT:Hid ((T,er)=(D,(0:Int))):=hid (by rw [HRT2.out,if_neg (by simp [hne])])
  have hte:=HT.out
  simp only [Prod.mk.injEq] at hte
  obtain ⟨hte1,hte2⟩:=hte
  subst hte1
  subst hte2
  clear HT
  rw [hb] at hqn
  simp only [Bool.not_true] at hqn
  clear HRT2 hne hb
  go_upto_region 16 with (fail)
  rw [<-HU2.out]
  refine wp_region_quiet_below (by kernel_rfl) (by kernel_rfl) ?_
  repeat (any_goals (first | go_big_quiet_step (first | (with_reducible exact HRO.out _ _)) | quiet_step (first | (with_reducible exact HRO.out _ _))))
  refine wpQuiet_nil ?_
  intro w4 hw4
  have hb4:=below_rg hw4
  have hr4:=hr2.below hb4
  have hi4:=hi2.below hb4
  have hg4:=gtrans hg2 (below_grownBy (b:=R.ib + 1) hb4)
  clear hw4 HU2 x0 x1 x2 x3 x4 x5 x6 f0 f1 HRO hqn
  obtain ⟨r0,r1⟩:=BK.c2 (show BK _ #[.string ⟨#[]⟩,.int .i64 0] _ _ from hr4)
  obtain ⟨fr0,fr1⟩:=BK.f2 (hr4)
  go_wp2_with fail
  obtain ⟨W9,hW9⟩:∃ W9,W9=putF w4 w.heap.size T 0:=⟨_,rfl⟩
  have hr9:=putF_law hr4 T 0
  have hi9:=Rdr.In.putF hi4 (n:=w.heap.size) (by omega) T 0
  have hg9:=putF_grown hg4 (Nat.le_refl _) T 0
  rw [<-hW9] at hr9 hi9 hg9
  unfold putF at hW9
  rw [<-hW9]
  clear hW9
  obtain ⟨z0,z1⟩:=BK.c2 (show BK _ #[.string ⟨(T).toArray⟩,.int .i64 0] _ _ from hr9)
  refine bodyPost_ret (v:=.agg #[.string ⟨(T).toArray⟩,.int .i64 0]) (by simp [results,Tryz.results91,go_sem,z0,z1]) rfl ?_
  exact ⟨rfl,⟨_,hi9,(fun _ _=>rfl)⟩,hg9⟩
 ·obtain ⟨S,se,hSS⟩:∃ S se,srcS R.xs R.l R.dat i (b1,b2)=(S,se):=⟨_,_,rfl⟩
  have hsl2:=src_len hR i hile (b1,b2)
  have HS:=hid (HSRC.out K wc HIv.out)
  unfold GotRd foundV at HS
  rw [hSS] at HS hsl2
  simp only at HS hsl2
  have HR1:Hid ((T,er)=if se ≠ 0 then (S,se) else if (decD D0).2 ≠ 0 then ([],13) else if (applyD S (decD D0).1).2 ≠ 0 then ([],13) else pcompS.rightS (applyD S (decD D0).1).1 (d1,d2)):=hid (by rw [HSR.out,HD0.out]; unfold pcompS; rw [hSS]; rw [if_pos rfl])
  clear hSS HSRC HSR HD0
  go_wp2_with fail
  (with_reducible refine (HS.out).mono ?_)
  rintro e u ⟨rfl,⟨K',hin,hkk⟩,hg⟩
  have HKK:Hid (∀ m:Int,(i:Int)<=m->K' m=K m):=hid hkk
  have hws:=HGv.out.size
  have hws2:=hg.size
  obtain ⟨v,hv⟩:∃ v,v=u.alloc (.cells #[.string ⟨S.toArray⟩,.int .i64 se] 98):=⟨_,rfl⟩
  have hbv:Below u.heap.size u v:=by rw [hv]; exact (Below.refl _ _).alloc (Nat.le_refl _) _
  have hr:=(HRv.out.grow1 hg (by omega)).below hbv
  have he:=(HEv.out.grow1 hg (by omega)).below hbv
  have hi:=hin.below hbv
  have hg2:w.grownBy v (some (R.ib + 1)):=gtrans (gtrans HGv.out hg) (below_grownBy hbv)
  have hsb:BK u.heap.size #[.string ⟨S.toArray⟩,.int .i64 se] 98 v:=by rw [hv]; exact BK.new _ _ _
  obtain ⟨sb,hsbn⟩:∃ sb,sb=u.heap.size:=⟨_,rfl⟩
  rw [<-hsbn] at hsb
  clear hbv hkk hg hin HS HRv HEv HIv HGv e0 e1 e2 e3 e4 e5 e6
  obtain ⟨s0,s1⟩:=BK.c2 (show BK _ #[.string ⟨S.toArray⟩,.int .i64 se] _ _ from hsb)
  rw [hv,hsbn] at s0 s1
  have HV:=hid hv
  have HSB:=hid hsbn
  by_cases hse:se=0
  case neg=>
   have hne:(se != 0)=true:=by simpa using hse
   have HT:Hid ((T,er)=(S,se)):=hid (by rw [HR1.out,if_pos hse])
   have hte:=HT.out
   simp only [Prod.mk.injEq] at hte
   obtain ⟨hte1,hte2⟩:=hte
   subst hte1
   subst hte2
   clear HT
   rw [hv] at hr hi hg2
   clear HR1 hse hv hsbn HV HSB hsb he hsl2 hile
   obtain ⟨r0,r1⟩:=BK.c2 (show BK _ #[.string ⟨#[]⟩,.int .i64 0] _ _ from hr)
   obtain ⟨fr0,fr1⟩:=BK.f2 (hr)
   go_wp2_with fail
   obtain ⟨W9,hW9⟩:∃ W9,W9=putF (u.alloc (.cells #[.string ⟨T.toArray⟩,.int .i64 er] 98)) w.heap.size T er:=⟨_,rfl⟩
   have hr9:=putF_law hr T er
   have hi9:=Rdr.In.putF hi (n:=w.heap.size) (by omega) T er
   have hg9:=putF_grown hg2 (Nat.le_refl _) T er
   rw [<-hW9] at hr9 hi9 hg9
   unfold putF at hW9
   rw [<-hW9]
   clear hW9
   obtain ⟨z0,z1⟩:=BK.c2 (show BK _ #[.string ⟨(T).toArray⟩,.int .i64 er] _ _ from hr9)
   refine bodyPost_ret (v:=.agg #[.string ⟨(T).toArray⟩,.int .i64 er]) (by simp [results,Tryz.results91,go_sem,z0,z1]) rfl ?_
   exact ⟨rfl,⟨_,hi9,HKK.out⟩,hg9⟩
  case pos=>
  subst hse
  obtain ⟨l,de,hdd⟩:∃ l de,decD D0=(l,de):=⟨_,_,rfl⟩
  have HDD:=hid (ddecode_any D0 v (by omega))
  unfold GotD at HDD
  rw [hdd] at HDD
  simp only at HDD
  have HR2:Hid ((T,er)=if de ≠ 0 then ([],13) else if (applyD S l).2 ≠ 0 then ([],13) else pcompS.rightS (applyD S l).1 (d1,d2)):=hid (by rw [HR1.out,if_neg (by simp),hdd])
  have HGD:Hid (de=0->(l.length:Int)<=D0.length/\∀ o ∈ l,o.data.length<=1099511627776/\o.len<=1099511627776/\o.off<=1099511627776):=hid (fun h=>by
   subst h
   obtain ⟨_,_,h3,h4⟩:=decD_good hdd
   exact ⟨h3,fun o ho=>⟨by have:=(h4 o ho).1; omega,(h4 o ho).2⟩⟩)
  clear hdd HR1 hv hsbn
  go_wp2_with fail
  rw [<-HV.out]
  clear s0 s1 HV
  (with_reducible refine (HDD.out).mono ?_)
  rintro e u3 ⟨da,dc,rfl,hgl,hb3⟩
  have hr3:=hr.below hb3
  have he3:=he.below hb3
  have hi3:=hi.below hb3
  have hs3:=hsb.below hb3
  have hg3:=gtrans hg2 (below_grownBy (b:=R.ib + 1) hb3)
  clear HDD hr he hi hsb hg2 hb3
  by_cases hde:de=0
  case neg=>
   have hne:(de != 0)=true:=by simpa using hde
   have HT:Hid ((T,er)=(([]:List UInt8),(13:Int))):=hid (by rw [HR2.out,if_pos hde])
   have hte:=HT.out
   simp only [Prod.mk.injEq] at hte
   obtain ⟨hte1,hte2⟩:=hte
   subst hte1
   subst hte2
   clear HT
   obtain ⟨r0,r1⟩:=BK.c2 (show BK _ #[.string ⟨#[]⟩,.int .i64 0] _ _ from hr3)
   obtain ⟨fr0,fr1⟩:=BK.f2 (hr3)
   clear HR2 HGD hde
   go_wp2_with fail
   obtain ⟨W9,hW9⟩:∃ W9,W9=putF u3 w.heap.size [] 13:=⟨_,rfl⟩
   have hr9:=putF_law hr3 [] 13
   have hi9:=Rdr.In.putF hi3 (n:=w.heap.size) (by omega) [] 13
   have hg9:=putF_grown hg3 (Nat.le_refl _) [] 13
   rw [<-hW9] at hr9 hi9 hg9
   unfold putF at hW9
   rw [<-hW9]
   clear hW9
   obtain ⟨z0,z1⟩:=BK.c2 (show BK _ #[.string ⟨([]).toArray⟩,.int .i64 13] _ _ from hr9)
   refine bodyPost_ret (v:=.agg #[.string ⟨([]).toArray⟩,.int .i64 13]) (by simp [results,Tryz.results91,go_sem,z0,z1]) rfl ?_
   exact ⟨rfl,⟨_,hi9,HKK.out⟩,hg9⟩
  case pos=>
  obtain ⟨hll,hlo⟩:=HGD.out hde
  subst hde
  obtain ⟨D,ae,haa⟩:∃ A ae,applyD S l=(A,ae):=⟨_,_,rfl⟩
  have HA:=hid (dapply_any S da l dc u3 hgl (by omega) (by omega) hlo)
  rw [haa] at HA
  simp only at HA
  have HR3:Hid ((T,er)=if ae ≠ 0 then ([],13) else pcompS.rightS D (d1,d2)):=hid (by rw [HR2.out,if_neg (by simp),haa])
  have HDL:Hid (ae=0->(D.length:Int)<=65536):=hid (fun h=>by subst h; exact apply_len haa)
  obtain ⟨s0,s1⟩:=BK.c2 (show BK _ #[.string ⟨S.toArray⟩,.int .i64 0] _ _ from hs3)
  rw [HSB.out] at s0 s1
  generalize l.length=ln at *
  clear haa HR2 HGD hlo hgl
  go_wp2_with fail
  (with_reducible refine (HA.out).mono ?_)
  rintro e u4 ⟨rfl,hb4⟩
  have hr:=hr3.below hb4
  have he:=he3.below hb4
  have hi:=hi3.below hb4
  have hg:=gtrans hg3 (below_grownBy (b:=R.ib + 1) hb4)
  clear HA hr3 he3 hi3 hs3 hg3 hb4 s0 s1
  by_cases hae:ae=0
  case neg=>
   have hne:(ae != 0)=true:=by simpa using hae
   have HT:Hid ((T,er)=(([]:List UInt8),(13:Int))):=hid (by rw [HR3.out,if_pos hae])
   have hte:=HT.out
   simp only [Prod.mk.injEq] at hte
   obtain ⟨hte1,hte2⟩:=hte
   subst hte1
   subst hte2
   clear HT
   obtain ⟨r0,r1⟩:=BK.c2 (show BK _ #[.string ⟨#[]⟩,.int .i64 0] _ _ from hr)
   obtain ⟨fr0,fr1⟩:=BK.f2 (hr)
   clear HR3 HDL hae
   go_wp2_with fail
   obtain ⟨W9,hW9⟩:∃ W9,W9=putF u4 w.heap.size [] 13:=⟨_,rfl⟩
   have hr9:=putF_law hr [] 13
   have hi9:=Rdr.In.putF hi (n:=w.heap.size) (by omega) [] 13
   have hg9:=putF_grown hg (Nat.le_refl _) [] 13
   rw [<-hW9] at hr9 hi9 hg9
   unfold putF at hW9
   rw [<-hW9]
   clear hW9
   obtain ⟨z0,z1⟩:=BK.c2 (show BK _ #[.string ⟨([]).toArray⟩,.int .i64 13] _ _ from hr9)
   refine bodyPost_ret (v:=.agg #[.string ⟨([]).toArray⟩,.int .i64 13]) (by simp [results,Tryz.results91,go_sem,z0,z1]) rfl ?_
   exact ⟨rfl,⟨_,hi9,HKK.out⟩,hg9⟩
  case pos=>
  have hDl:=HDL.out hae
  subst hae
  have HT:Hid ((T,er)=pcompS.rightS D (d1,d2)):=hid (by rw [HR3.out,if_neg (by simp)])
  have HRv:=hid hr
  have HEv:=hid he
  have HIv:=hid hi
  have HGv:=hid hg
  clear HR3 HDL hr he hi hg
  have HDE:=hid (decode_any D u4 (by omega))
  have HOF:=hid (fun W=>of_any D W (by omega))
  obtain ⟨o,oe,hoo⟩:∃ o oe,decodeS D=(o,oe):=⟨_,_,rfl⟩
  have HRT:Hid ((T,er)=if oe ≠ 0 then ([],13) else if digS D ≠ (d1,d2) then ([],15) else (D,0)):=hid (by have h:=HT.out; unfold pcompS.rightS at h; rw [hoo] at h; exact h)
  rw [hoo] at HDE
  simp only at HDE
  clear hoo HT
  go_wp2_with fail
  (with_reducible refine (HDE.out).mono ?_)
  rintro e u ⟨ea,ec,pa,pc,rfl,hob,hb⟩
  have hr:=HRv.out.below hb
  have he:=HEv.out.below hb
  have hi:=HIv.out.below hb
  have hg:=gtrans HGv.out (below_grownBy (b:=R.ib + 1) hb)
  have hws:=(gtrans HGv.out (below_grownBy (b:=R.ib + 1) hb)).size
  obtain ⟨kind,data,ents,⟨t1,t2⟩,pars,author,time,msg⟩:=o
  simp only [Ob.val]
  generalize ents.length=ne
  generalize pars.length=np
  clear HDE hob hb HRv HEv HIv HGv
  by_cases hoe:oe=0
  case neg=>
   have hne:(oe != 0)=true:=by simpa using hoe
   have HT:Hid ((T,er)=(([]:List UInt8),(13:Int))):=hid (by rw [HRT.out,if_pos hoe])
   have hte:=HT.out
   simp only [Prod.mk.injEq] at hte
   obtain ⟨hte1,hte2⟩:=hte
   subst hte1
   subst hte2
   clear HT
   have hra:=hr.alloc (.cells #[.int .i64 kind,.string ⟨data.toArray⟩,.slice ea ne ec,.int .u64 t1,.int .u64 t2,.slice pa np pc,.string ⟨author.toArray⟩,.int .i64 time,.string ⟨msg.toArray⟩] 56)
   have hia:=hi.alloc (.cells #[.int .i64 kind,.string ⟨data.toArray⟩,.slice ea ne ec,.int .u64 t1,.int .u64 t2,.slice pa np pc,.string ⟨author.toArray⟩,.int .i64 time,.string ⟨msg.toArray⟩] 56)
   have hga:w.grownBy (u.alloc (.cells #[.int .i64 kind,.string ⟨data.toArray⟩,.slice ea ne ec,.int .u64 t1,.int .u64 t2,.slice pa np pc,.string ⟨author.toArray⟩,.int .i64 time,.string ⟨msg.toArray⟩] 56)) (some (R.ib + 1)):=gtrans hg (World.grownBy_alloc _ _ _)
   obtain ⟨r0,r1⟩:=BK.c2 (show BK _ #[.string ⟨#[]⟩,.int .i64 0] _ _ from hra)
   obtain ⟨fr0,fr1⟩:=BK.f2 (hra)
   clear HRT hoe
   go_wp2_with fail
   obtain ⟨W9,hW9⟩:∃ W9,W9=putF (u.alloc (.cells #[.int .i64 kind,.string ⟨data.toArray⟩,.slice ea ne ec,.int .u64 t1,.int .u64 t2,.slice pa np pc,.string ⟨author.toArray⟩,.int .i64 time,.string ⟨msg.toArray⟩] 56)) w.heap.size [] 13:=⟨_,rfl⟩
   have hr9:=putF_law hra [] 13
   have hi9:=Rdr.In.putF hia (n:=w.heap.size) (by omega) [] 13
   have hg9:=putF_grown hga (Nat.le_refl _) [] 13
   rw [<-hW9] at hr9 hi9 hg9
   unfold putF at hW9
   rw [<-hW9]
   clear hW9
   obtain ⟨z0,z1⟩:=BK.c2 (show BK _ #[.string ⟨([]).toArray⟩,.int .i64 13] _ _ from hr9)
   refine bodyPost_ret (v:=.agg #[.string ⟨([]).toArray⟩,.int .i64 13]) (by simp [results,Tryz.results91,go_sem,z0,z1]) rfl ?_
   exact ⟨rfl,⟨_,hi9,HKK.out⟩,hg9⟩
  case pos=>
  subst hoe
  have HRT2:Hid ((T,er)=if digS D ≠ (d1,d2) then ([],15) else (D,0)):=hid (by rw [HRT.out,if_neg (by simp)])
  obtain ⟨u2,hu2⟩:∃ u2,u2=(u.alloc (.cells #[.int .i64 kind,.string ⟨data.toArray⟩,.slice ea ne ec,.int .u64 t1,.int .u64 t2,.slice pa np pc,.string ⟨author.toArray⟩,.int .i64 time,.string ⟨msg.toArray⟩] 56)):=⟨_,rfl⟩
  have hbu:Below u.heap.size u u2:=by rw [hu2]; exact (Below.refl _ _).alloc (Nat.le_refl _) _
  have hr2:=hr.below hbu
  have he2:=he.below hbu
  have hi2:=hi.below hbu
  have hg2:=gtrans hg (below_grownBy (b:=R.ib + 1) hbu)
  have HU2:=hid hu2
  obtain ⟨D1,D2,hdd⟩:∃ D1 D2,digS D=(D1,D2):=⟨_,_,rfl⟩
  rw [hdd] at HOF HRT2
  simp only at HOF
  have hqn:=fun W=>neq_dig D1 D2 d1 d2 W
  have HRO:=hid (fun d os=>Calls.regrown_of (w:=u2) (d:=d) (os:=os) (HOF.out _))
  obtain ⟨x0,x1,x2,x3,x4,x5,x6⟩:=BK.c7 (show BK _ #[.int .u64 d1,.int .u64 d2,.int .i64 1,.int .u64 b1,.int .u64 b2,.int .i64 (off:Int),.int .i64 (len:Int)] _ _ from he2)
  have f0:=cell_regrown x0
  have f1:=cell_regrown x1
  clear hu2 hbu hr he hi hg HRT HOF hdd he2
  by_cases hne:(D1,D2)=(d1,d2)
  case neg=>
   have hb:(D1 == d1 && D2 == d2)=false:=by
    cases h:(D1 == d1 && D2 == d2) with
    | false=>rfl
    | true=>exact absurd (by simp only [Bool.and_eq_true,beq_iff_eq] at h; rw [h.1,h.2]) hne
   have HT:Hid ((T,er)=(([]:List UInt8),(15:Int))):=hid (by rw [HRT2.out,if_pos hne])
   have hte:=HT.out
   simp only [Prod.mk.injEq] at hte
   obtain ⟨hte1,hte2⟩:=hte
   subst hte1
   subst hte2
   clear HT
   rw [hb] at hqn
   simp only [Bool.not_false] at hqn
   clear HRT2 hne hb
   go_upto_region 16 with (fail)
   rw [<-HU2.out]
   refine wp_region_quiet_below (by kernel_rfl) (by kernel_rfl) ?_
   repeat (any_goals (first | go_big_quiet_step (first | (with_reducible exact HRO.out _ _)) | quiet_step (first | (with_reducible exact HRO.out _ _))))
   refine wpQuiet_nil ?_
   intro w4 hw4
   have hb4:=below_rg hw4
   have hr4:=hr2.below hb4
   have hi4:=hi2.below hb4
   have hg4:=gtrans hg2 (below_grownBy (b:=R.ib + 1) hb4)
   clear hw4 HU2 x0 x1 x2 x3 x4 x5 x6 f0 f1 HRO hqn
   obtain ⟨r0,r1⟩:=BK.c2 (show BK _ #[.string ⟨#[]⟩,.int .i64 0] _ _ from hr4)
   obtain ⟨fr0,fr1⟩:=BK.f2 (hr4)
   go_wp2_with fail
   obtain ⟨W9,hW9⟩:∃ W9,W9=putF w4 w.heap.size [] 15:=⟨_,rfl⟩
   have hr9:=putF_law hr4 [] 15
   have hi9:=Rdr.In.putF hi4 (n:=w.heap.size) (by omega) [] 15
   have hg9:=putF_grown hg4 (Nat.le_refl _) [] 15
   rw [<-hW9] at hr9 hi9 hg9
   unfold putF at hW9
   rw [<-hW9]
   clear hW9
   obtain ⟨z0,z1⟩:=BK.c2 (show BK _ #[.string ⟨([]).toArray⟩,.int .i64 15] _ _ from hr9)
   refine bodyPost_ret (v:=.agg #[.string ⟨([]).toArray⟩,.int .i64 15]) (by simp [results,Tryz.results91,go_sem,z0,z1]) rfl ?_
   exact ⟨rfl,⟨_,hi9,HKK.out⟩,hg9⟩
  case pos=>
  have hb:(D1 == d1 && D2 == d2)=true:=by
   simp only [Prod.mk.injEq] at hne
   simp [hne.1,hne.2]
  have HT:Hid ((T,er)=(D,(0:Int))):=hid (by rw [HRT2.out,if_neg (by simp [hne])])
  have hte:=HT.out
  simp only [Prod.mk.injEq] at hte
  obtain ⟨hte1,hte2⟩:=hte
  subst hte1
  subst hte2
  clear HT
  rw [hb] at hqn
  simp only [Bool.not_true] at hqn
  clear HRT2 hne hb
  go_upto_region 16 with (fail)
  rw [<-HU2.out]
  refine wp_region_quiet_below (by kernel_rfl) (by kernel_rfl) ?_
  repeat (any_goals (first | go_big_quiet_step (first | (with_reducible exact HRO.out _ _)) | quiet_step (first | (with_reducible exact HRO.out _ _))))
  refine wpQuiet_nil ?_
  intro w4 hw4
  have hb4:=below_rg hw4
  have hr4:=hr2.below hb4
  have hi4:=hi2.below hb4
  have hg4:=gtrans hg2 (below_grownBy (b:=R.ib + 1) hb4)
  clear hw4 HU2 x0 x1 x2 x3 x4 x5 x6 f0 f1 HRO hqn
  obtain ⟨r0,r1⟩:=BK.c2 (show BK _ #[.string ⟨#[]⟩,.int .i64 0] _ _ from hr4)
  obtain ⟨fr0,fr1⟩:=BK.f2 (hr4)
  go_wp2_with fail
  obtain ⟨W9,hW9⟩:∃ W9,W9=putF w4 w.heap.size T 0:=⟨_,rfl⟩
  have hr9:=putF_law hr4 T 0
  have hi9:=Rdr.In.putF hi4 (n:=w.heap.size) (by omega) T 0
  have hg9:=putF_grown hg4 (Nat.le_refl _) T 0
  rw [<-hW9] at hr9 hi9 hg9
  unfold putF at hW9
  rw [<-hW9]
  clear hW9
  obtain ⟨z0,z1⟩:=BK.c2 (show BK _ #[.string ⟨(T).toArray⟩,.int .i64 0] _ _ from hr9)
  refine bodyPost_ret (v:=.agg #[.string ⟨(T).toArray⟩,.int .i64 0]) (by simp [results,Tryz.results91,go_sem,z0,z1]) rfl ?_
  exact ⟨rfl,⟨_,hi9,HKK.out⟩,hg9⟩
theorem get_all {R:Rdr} (hR:R.Ok):∀ (n i:Nat),i < n->i < R.l.length->GetS R i
 | 0,i,h,_=>by omega
 | n + 1,i,h,hi=>get_of R hR i hi (comp_of R hR i hi (fun j hj=>get_all hR n j (by omega) (by omega)))
theorem idxE_snoc {l:List Pe} {x:Pe} (d:Int × Int) (hn:x.d ∉ l.map (·.d)):idxE (l ++ [x]) d=if d=x.d then some l.length else idxE l d:=by
 unfold idxE
 rw [List.findIdx?_append]
 by_cases e:d=x.d
 ·rw [if_pos e]
  have h1:l.findIdx? (fun e=>decide (e.d=d))=none:=by
   rw [List.findIdx?_eq_none_iff]
   intro y hy
   simp only [decide_eq_false_iff_not]
   intro h
   exact hn (by rw [<-e,<-h]; exact List.mem_map_of_mem hy)
  rw [h1]
  simp [e,List.findIdx?_cons]
 ·rw [if_neg e]
  have h2:[x].findIdx? (fun e=>decide (e.d=d))=none:=by simp [List.findIdx?_cons,Ne.symm e]
  rw [h2]
  cases l.findIdx? (fun e=>decide (e.d=d)) <;> rfl
structure PoolR (xs:List Itm) (pc:Nat):Prop where
 asc:Asc xs
 val:∀ x ∈ xs,(decodeS x.data).2=0
 dig:∀ x ∈ xs,OkD x.d
 xl:(xs.length:Int)<=100000000
 xd:∀ x ∈ xs,(x.data.length:Int)<=140737488355328
 pc:xs.length<=pc
def GotNr (w:World) (s:List UInt8) (xs:List Itm) (e:Ending) (w':World):Prop:=∃ R:Rdr,R.s=s/\R.xs=xs/\R.l=(entriesS s).1/\e = .returned (.tuple #[.pointer (some ⟨R.ib + 1 + 1,0,none⟩),.int .i64 (entriesS s).2])/\R.Ok/\R.In (fun _=>none) w'/\Below w.heap.size w w'/\w.heap.size<=R.ib
theorem newr_any (s:List UInt8) (xs:List Itm) (pa:Option Addr) (pc:Nat) (w:World) (hl:(s.length:Int)<=70368744177664) (hits:Its w.heap.size w pa xs) (hp:PoolR xs pc):Calls Tryz.prog 45 #[.string ⟨s.toArray⟩,.slice pa xs.length pc] w (GotNr w s xs):=by
 have HITS:=hid hits
 have HP:=hid hp
 have HL:=hid hl
 have HE:=hid (entries_any s w hl)
 unfold GotE at HE
 have hok0:EntsOk (s.take (s.length - 16)) (entriesS s).1/\(entriesS s).1.length<=1000:=by
  by_cases h:(entriesS s).2=0
  ·obtain ⟨g1,g2,_⟩:=entriesS_ok (s:=s) (l:=(entriesS s).1) (by rw [<-h])
   exact ⟨g1,g2⟩
  ·rw [entriesS_bad h]; exact ⟨EntsOk.nil _,by simp⟩
 have HOK:=hid hok0
 unfold GotNr
 generalize entriesS s=E at HE HOK ⊢
 obtain ⟨l,er⟩:=E
 simp only at HE HOK ⊢
 have hll:=HOK.out.2
 obtain ⟨n,hn⟩:∃ n,n=l.length:=⟨_,rfl⟩
 have HN:=hid hn
 rw [<-hn] at hll
 simp only [<-hn] at HE
 obtain ⟨nx,hnx⟩:∃ nx,nx=xs.length:=⟨_,rfl⟩
 have HNX:=hid hnx
 rw [<-hnx]
 have hmm:=@run_makeMap Tryz.prog
 clear hits hp hok0 hn hl hnx
 go_enter Tryz.func45,Tryz.ntmps45
 go_wp2_with fail
 (with_reducible refine (HE.out).mono ?_)
 rintro e u ⟨a,c,rfl,hgi,hb⟩
 obtain ⟨q,hq⟩:∃ q,q=u.heap.size:=⟨_,rfl⟩
 obtain ⟨v,hv⟩:∃ v,v=((u.alloc (.map #[] 0)).alloc (.map #[] 0)).alloc (.cells #[.string ⟨s.toArray⟩,.slice a n c,.slice pa nx pc,.map (some q),.map (some (q + 1))] 96):=⟨_,rfl⟩
 have hm0:MapG digG q 0 (fun _=>none) (u.alloc (.map #[] 0)):=by rw [hq]; exact MapG.made _ _
 have hm1:MapG intG (q + 1) 0 (fun _=>none) ((u.alloc (.map #[] 0)).alloc (.map #[] 0)):=by have:=MapG.made intG (u.alloc (.map #[] 0)); rw [hq]; simpa using this
 have HM0:Hid (MapG digG q 0 (fun d=>(idxE (l.take 0) d).map fun i=>.int .i64 (i:Int)) v):=hid (by rw [hv]; exact ((hm0.alloc _).alloc _).eq (fun d=>rfl))
 have HK0:Hid (MapG intG (q + 1) 0 (fun _=>none) v):=hid (by rw [hv]; exact hm1.alloc _)
 have HX0:Hid (BK (q + 1 + 1) #[.string ⟨s.toArray⟩,.slice a n c,.slice pa nx pc,.map (some q),.map (some (q + 1))] 96 v):=hid (by
  have:=BK.new ((u.alloc (.map #[] 0)).alloc (.map #[] 0)) #[.string ⟨s.toArray⟩,.slice a n c,.slice pa nx pc,.map (some q),.map (some (q + 1))] 96
  rw [hv]
  have e1:((u.alloc (.map #[] 0)).alloc (.map #[] 0)).heap.size=q + 1 + 1:=by rw [hq]; simp
  rw [e1] at this
  exact this)
 have hbv:Below u.heap.size u v:=by rw [hv]; exact (((Below.refl _ _).alloc (Nat.le_refl _) _).alloc (by simp) _).alloc (by simp; omega) _
 have HB0:=hid (hb.trans (hbv.mono hb.size))
 have HG0:Hid (GIn peCs 7 q v a l):=hid (by rw [hq]; exact hgi.below hbv (Nat.le_refl _))
 have HQ:Hid (w.heap.size<=q):=hid (by rw [hq]; exact hb.size)
 clear hm0 hm1 hbv hb hgi HE
 go_wp2_with fail
 rw [<-hq,<-hv]
 clear hq hv hmm
 go_loopw [25] (fun i wr=>∃ k:Nat,k<=n/\i = .int .i64 (k:Int)/\Hid (MapG digG q k (fun d=>(idxE (l.take k) d).map fun i=>.int .i64 (i:Int)) wr)/\Hid (MapG intG (q + 1) 0 (fun _=>none) wr)/\Hid (BK (q + 1 + 1) #[.string ⟨s.toArray⟩,.slice a n c,.slice pa nx pc,.map (some q),.map (some (q + 1))] 96 wr)/\Hid (GIn peCs 7 q wr a l)/\Hid (Below w.heap.size w wr)) (fun i _=>n - (intOf i).toNat)
 case atStart=>exact ⟨0,by omega,rfl,HM0,HK0,HX0,HG0,HB0⟩
 case round=>
  clear HM0 HK0 HX0 HG0 HB0
  obtain ⟨k,hk,rfl,HM,HK,HX,HG,HB⟩:=hrel
  by_cases hlt:k < n
  ·have hki:(k:Int) < (n:Int):=by omega
   have hkl:k < l.length:=by rw [<-HN.out]; exact hlt
   obtain ⟨bl,ofl,rfl,hblt,q0,q1,q2,q3,q4,q5,q6⟩:=pe_cells HG.out hkl
   obtain ⟨k0,hek⟩:=HOK.out.1.at_ _ (List.getElem_mem hkl)
   have hok:=(entryS_at hek).1.dok
   have HST:Hid (∀ d,idxE (l.take (k + 1)) d=if d=l[k].d then some k else idxE (l.take k) d):=hid (fun d=>by
    rw [List.take_succ_eq_append_getElem hkl,idxE_snoc]
    ·rw [List.length_take,Nat.min_eq_left (by omega)]
    ·have hnd:=HOK.out.1.nd
     rw [<-List.take_append_drop k l,List.map_append,List.nodup_append] at hnd
     intro hm
     exact hnd.2.2 _ hm _ (List.mem_map_of_mem (List.mem_of_getElem (i:=0) (h:=by simp; omega) rfl)) (by simp))
   have hxlt:=HX.out.lt
   generalize l[k]=x at *
   obtain ⟨⟨d1,d2⟩,kd,⟨b1,b2⟩,off,len⟩:=x
   simp only at q0 q1 q2 q3 q4 q5 q6 hok HST
   obtain ⟨v,hv⟩:∃ v,v=wr.alloc (.cells #[.int .u64 d1,.int .u64 d2,.int .i64 kd,.int .u64 b1,.int .u64 b2,.int .i64 (off:Int),.int .i64 (len:Int)] 53):=⟨_,rfl⟩
   have hbv:Below wr.heap.size wr v:=by rw [hv]; exact (Below.refl _ _).alloc (Nat.le_refl _) _
   have hmd:=(HM.out.below hbv).below ((Below.refl _ _).drew)
   have hxv:=HX.out.below hbv
   have hev:BK wr.heap.size #[.int .u64 d1,.int .u64 d2,.int .i64 kd,.int .u64 b1,.int .u64 b2,.int .i64 (off:Int),.int .i64 (len:Int)] 53 v:=by rw [hv]; exact BK.new _ _ _
   obtain ⟨v2,hput,hmp,hg2,hs2⟩:=hmd.put Tryz.underlying93 (a:=(d1,d2)) hok (by omega) (.int .i64 (k:Int))
   have HPUT:(Instr.mapUpdate 93 (.map (some q)) (.agg #[.int .u64 d1,.int .u64 d2]) (.int .i64 (k:Int))).run Tryz.prog v.drew = .ok () v2:=hput
   have hgd:wr.grownBy v2 (some q):=gtrans (below_grownBy hbv) (gtrans (below_grownBy ((Below.refl _ _).drew)) hg2)
   have HM2:Hid (MapG digG q (k + 1) (fun d=>(idxE (l.take (k + 1)) d).map fun i=>.int .i64 (i:Int)) v2):=hid (hmp.eq (fun d=>by rw [HST.out d]; split <;> rfl))
   have HK2:=hid (HK.out.kept hgd (by simp))
   have HX2:=hid (HX.out.grow1 hgd (by omega))
   have hib:Below q wr v2:=⟨hgd.os,hgd.tape,hgd.output,hgd.size,fun j hj=>hgd.block j (by omega) (fun e=>by cases e; omega)⟩
   have HG2:=hid (HG.out.below hib (Nat.le_refl _))
   have HB2:=hid (below_of_grown HB.out hgd HQ.out)
   obtain ⟨x0,x1,x2,x3,x4⟩:=BK.c5 (show BK _ #[.string ⟨s.toArray⟩,.slice (some ⟨bl,ofl,none⟩) n c,.slice pa nx pc,.map (some q),.map (some (q + 1))] _ _ from hxv)
   obtain ⟨e0,e1,e2,e3,e4,e5,e6⟩:=BK.c7 (show BK _ #[.int .u64 d1,.int .u64 d2,.int .i64 kd,.int .u64 b1,.int .u64 b2,.int .i64 (off:Int),.int .i64 (len:Int)] _ _ from hev)
   have HV:=hid hv
   clear hv hbv hmd hxv hev hput hmp hg2 hs2 hgd hib HM HK HX HG HB HST hok hek hkl
   go_wp2_with fail
   rw [<-HV.out]
   clear q0 q1 q2 q3 q4 q5 q6 HV
   go_region
   clear x0 x1 x2 x3 x4 e0 e1 e2 e3 e4 e5 e6 HPUT
   go_wp2_with fail
   go_roundw
   case rel=>exact ⟨k + 1,by omega,by go_num,HM2,HK2,HX2,HG2,HB2⟩
   case measure=>simp [intOf] <;> omega
  ·obtain rfl:k=n:=by omega
   have hki:¬ (k:Int) < (k:Int):=by omega
   have HM2:Hid (MapG digG q k (fun d=>(idxE l d).map fun i=>.int .i64 (i:Int)) wr):=hid (by have:=HM.out; rw [HN.out,List.take_length] at this; rw [HN.out]; exact this)
   have HR:Hid (Rdr.Ok ⟨q,s,l,a,c,xs,pa,pc⟩/\Rdr.In ⟨q,s,l,a,c,xs,pa,pc⟩ (fun _=>none) wr):=hid (by
    have hx:=HX.out
    rw [HN.out,HNX.out] at hx
    refine ⟨⟨HP.out.asc,HP.out.val,HP.out.dig,HP.out.xl,HP.out.xd,HP.out.pc,HL.out,HOK.out.1,HOK.out.2⟩,hx,HG.out,(HITS.out.below HB.out (Nat.le_refl _)).mono HQ.out,⟨k,HM2.out⟩,HK.out.mono (Nat.zero_le _),fun i v h=>by cases h⟩)
   clear HM HK HX HG HM2 HN HNX HP HL HOK HITS
   go_wp2_with fail
   go_ret2
   exact ⟨⟨q,s,l,a,c,xs,pa,pc⟩,rfl,rfl,rfl,rfl,HR.out.1,HR.out.2,HB.out,HQ.out⟩
def findP (s:List UInt8) (xs:List Itm) (d:Int × Int):List UInt8 × Int:=
 if (entriesS s).2 ≠ 0 then ([],(entriesS s).2) else match idxE (entriesS s).1 d with
  | some i=>datS s xs (entriesS s).1 i
  | none=>([],8)
theorem pfind_any (s:List UInt8) (xs:List Itm) (pa:Option Addr) (pc:Nat) (d1 d2:Int) (w:World) (hl:(s.length:Int)<=70368744177664) (hits:Its w.heap.size w pa xs) (hp:PoolR xs pc) (hdk:OkD (d1,d2)):Calls Tryz.prog 17 #[.string ⟨s.toArray⟩,.agg #[.int .u64 d1,.int .u64 d2],.slice pa xs.length pc] w fun e w'=>e = .returned (.tuple #[.string ⟨(findP s xs (d1,d2)).1.toArray⟩,.int .i64 (findP s xs (d1,d2)).2])/\Below w.heap.size w w':=by
 obtain ⟨wa,hwa⟩:∃ wa,wa=w.alloc (.cells #[.int .u64 d1,.int .u64 d2] 41):=⟨_,rfl⟩
 have hba:Below w.heap.size w wa:=by rw [hwa]; exact (Below.refl _ _).alloc (Nat.le_refl _) _
 have HB:=hid hba
 have HD:Hid (BK w.heap.size #[.int .u64 d1,.int .u64 d2] 41 wa):=hid (by rw [hwa]; exact BK.new _ _ _)
 have HN:=hid (newr_any s xs pa pc wa hl ((hits.below hba (Nat.le_refl _)).mono hba.size) hp)
 unfold GotNr at HN
 rw [hwa] at HN
 have HWA:=hid hwa
 obtain ⟨T,e2,hF⟩:∃ T e2,findP s xs (d1,d2)=(T,e2):=⟨_,_,rfl⟩
 rw [hF]
 unfold findP at hF
 obtain ⟨l,er,hE⟩:∃ l er,entriesS s=(l,er):=⟨_,_,rfl⟩
 rw [hE] at hF HN
 simp only at HN hF ⊢
 have HF:=hid hF.symm
 clear hF hE hwa hba hits hp hl
 go_enter Tryz.func17,Tryz.ntmps17
 go_wp2_with fail
 (with_reducible refine (HN.out).mono ?_)
 rintro e u ⟨R,rfl,rfl,rfl,rfl,hok,hin,hb,hib⟩
 rw [<-HWA.out] at hb hib
 have hws:=HB.out.size
 have hbb:=HB.out.trans (hb.mono hws)
 by_cases her:er=0
 case neg=>
  have hne:(er != 0)=true:=by simpa using her
  have hte:=HF.out
  rw [if_pos her] at hte
  simp only [Prod.mk.injEq] at hte
  obtain ⟨hte1,hte2⟩:=hte
  subst hte1
  subst hte2
  clear HF HN
  go_wp2_with fail
  go_ret2
  exact ⟨rfl,hbb⟩
 case pos=>
 subst her
 have hls:w.heap.size < wa.heap.size:=HD.out.lt
 have HF2:Hid ((T,e2)=match idxE R.l (d1,d2) with
  | some i=>R.dat i
  | none=>([],8)):=hid (by rw [HF.out,if_neg (by simp)]; rfl)
 have hin2:=hin.below ((Below.refl _ _).drew)
 obtain ⟨mn,hmx⟩:=hin2.idx
 have hlk:(Instr.lookup 93 (.map (some R.ib)) (.agg #[.int .u64 d1,.int .u64 d2]) true).run Tryz.prog u.drew = .ok (.tuple #[((idxE R.l (d1,d2)).map fun i=>Value.int .i64 (i:Int)).getD (.int .i64 0),.bool ((idxE R.l (d1,d2)).map fun i=>Value.int .i64 (i:Int)).isSome]) u.drew:=hmx.lookOk Tryz.underlying93 (zeroInt _) (a:=(d1,d2)) hdk
 have hbx:=hin.box
 have hd:=HD.out.below hb
 obtain ⟨x0,x1,x2,x3,x4⟩:=BK.c5 (show BK _ #[.string ⟨R.s.toArray⟩,.slice R.ea R.l.length R.ec,.slice R.pa R.xs.length R.pc,.map (some R.ib),.map (some (R.ib + 1))] _ _ from hbx)
 obtain ⟨g0,g1⟩:=BK.c2 (show BK _ #[.int .u64 d1,.int .u64 d2] _ _ from hd)
 cases hx:idxE R.l (d1,d2) with
 | none=>
  have hlk2:(Instr.lookup 93 (.map (some R.ib)) (.agg #[.int .u64 d1,.int .u64 d2]) true).run Tryz.prog u.drew = .ok (.tuple #[.int .i64 0,.bool false]) u.drew:=by rw [hlk,hx]; rfl
  have hte:=HF2.out
  rw [hx] at hte
  simp only [Prod.mk.injEq] at hte
  obtain ⟨hte1,hte2⟩:=hte
  subst hte1
  subst hte2
  have HBB:=hid (hbb.drew)
  clear hlk HF HF2 HN hmx hin2 hin hbx hd hb hbb hx hok
  go_wp2_with fail
  go_region
  go_wp2_with fail
  go_ret2
  exact ⟨rfl,HBB.out⟩
 | some i=>
  have hlk2:(Instr.lookup 93 (.map (some R.ib)) (.agg #[.int .u64 d1,.int .u64 d2]) true).run Tryz.prog u.drew = .ok (.tuple #[.int .i64 (i:Int),.bool true]) u.drew:=by rw [hlk,hx]; rfl
  have hte:=HF2.out
  rw [hx] at hte
  simp only at hte
  have hil:=(idxE_some hx).1
  have HG:=hid (get_all hok (i + 1) i (by omega) hil (fun _=>none) u.drew hin2)
  unfold GotRd foundV at HG
  rw [<-hte] at HG
  simp only at HG
  have HBB:=hid (hbb.drew)
  have HIB:Hid (w.heap.size<=R.ib + 1):=hid (by omega)
  clear hlk HF HF2 HN hmx hin2 hin hbx hd hb hbb hx hok hil hte
  go_wp2_with fail
  go_region
  clear x0 x1 x2 x3 x4 g0 g1 hlk2
  go_wp2_with fail
  (with_reducible refine (HG.out).mono ?_)
  rintro e3 u2 ⟨rfl,hin3,hg⟩
  have HB2:=hid (below_of_grown HBB.out hg HIB.out)
  obtain ⟨v,hv⟩:∃ v,v=u2.alloc (.cells #[.string ⟨T.toArray⟩,.int .i64 e2] 98):=⟨_,rfl⟩
  have hf:BK u2.heap.size #[.string ⟨T.toArray⟩,.int .i64 e2] 98 v:=by rw [hv]; exact BK.new _ _ _
  have HB3:Hid (Below w.heap.size w v):=hid (by rw [hv]; exact HB2.out.alloc HB2.out.size _)
  obtain ⟨f0,f1⟩:=BK.c2 (show BK _ #[.string ⟨T.toArray⟩,.int .i64 e2] _ _ from hf)
  clear HG HBB HIB HB2 hg hin3 hf
  go_wp2_with fail
  rw [<-hv]
  clear hv
  go_region
  go_wp2_with fail
  go_ret2
  exact ⟨rfl,HB3.out.drew⟩
def unGo (dat:Nat->List UInt8 × Int) (l:List Pe):Nat->Nat->List Itm->List Itm × Int
 | 0,_,p=>(p,0)
 | f + 1,k,p=>match l[k]? with
  | none=>(p,0)
  | some e=>if (dat k).2 ≠ 0 then ([],(dat k).2) else if (addS p ⟨e.d,(dat k).1⟩).2 ≠ 0 then ([],(addS p ⟨e.d,(dat k).1⟩).2) else unGo dat l f (k + 1) (addS p ⟨e.d,(dat k).1⟩).1
def unpackS (s:List UInt8) (xs:List Itm):List Itm × Int:=
 if (entriesS s).2 ≠ 0 then ([],(entriesS s).2) else unGo (datS s xs (entriesS s).1) (entriesS s).1 (entriesS s).1.length 0 xs
theorem unGo_step {dat:Nat->List UInt8 × Int} {l:List Pe} {k:Nat} (hk:k < l.length) (p:List Itm):unGo dat l (l.length - k) k p=if (dat k).2 ≠ 0 then ([],(dat k).2) else if (addS p ⟨l[k].d,(dat k).1⟩).2 ≠ 0 then ([],(addS p ⟨l[k].d,(dat k).1⟩).2) else unGo dat l (l.length - (k + 1)) (k + 1) (addS p ⟨l[k].d,(dat k).1⟩).1:=by
 rw [show l.length - k=(l.length - (k + 1)) + 1 by omega,unGo,List.getElem?_eq_getElem hk]
theorem cell_grown {W W':World} {c b j:Nat} (hg:W.grownBy W' (some c)) (hb:b < W.heap.size) (hne:b ≠ c):W'.cell? ⟨b,j,none⟩=W.cell? ⟨b,j,none⟩:=by
 have h:=hg.block b hb (fun e=>by cases e; exact hne rfl)
 unfold World.cell?
 simp only [h]
theorem its_grown {W W':World} {a:Option Addr} {xs:List Itm} {c:Nat} (h:Its W.heap.size W a xs) (hg:W.grownBy W' (some c)) (hne:0 < xs.length->∀ ad,a=some ad->ad.block ≠ c):Its W'.heap.size W' a xs:=by
 intro i hi
 obtain ⟨b,off,rfl,hlt,h0,h1,h2⟩:=h i hi
 have hn:=hne (by omega) _ rfl
 have hs:=hg.size
 exact ⟨b,off,rfl,by omega,(cell_grown hg hlt hn).trans h0,(cell_grown hg hlt hn).trans h1,(cell_grown hg hlt hn).trans h2⟩
structure UnP (R:Rdr) (pa:Option Addr) (k:Nat) (a:Option Addr) (c:Nat) (P:List Itm) (W:World):Prop where
 its:Its W.heap.size W a P
 cap:P.length<=c
 asc:Asc P
 len:P.length<=R.xs.length + k
 dat:∀ x ∈ P,(x.data.length:Int)<=140737488355328
 or_:(a=pa/\P=R.xs)\/∀ ad,a=some ad->R.ib + 1 < ad.block
theorem UnP.apart {R:Rdr} {pa:Option Addr} {k:Nat} {a:Option Addr} {c:Nat} {P:List Itm} {W:World} (h:UnP R pa k a c P W) {w:World} {B:Nat} (hx:Its B w pa R.xs) (hB:B<=R.ib):0 < P.length->∀ ad,a=some ad->ad.block ≠ R.ib + 1:=by
 intro hl ad had
 rcases h.or_ with ⟨rfl,rfl⟩ | h1
 ·obtain ⟨b,off,he,hlt,_⟩:=hx 0 hl
  rw [had] at he
  cases he
  simp only
  omega
 ·have:=h1 ad had
  omega
theorem UnP.grown {R:Rdr} {pa:Option Addr} {k:Nat} {a:Option Addr} {c:Nat} {P:List Itm} {W W':World} (h:UnP R pa k a c P W) {w:World} {B:Nat} (hx:Its B w pa R.xs) (hB:B<=R.ib) (hg:W.grownBy W' (some (R.ib + 1))):UnP R pa k a c P W':=
 ⟨its_grown h.its hg (h.apart hx hB),h.cap,h.asc,h.len,h.dat,h.or_⟩
theorem UnP.pool {R:Rdr} {pa:Option Addr} {k:Nat} {a:Option Addr} {c:Nat} {P:List Itm} {W:World} (h:UnP R pa k a c P W) (h1:(R.xs.length:Int)<=1000000) (h2:k<=1000):PoolIn W a P c:=⟨h.its,h.cap,by have:=h.len; omega,h.dat⟩
theorem addS_ok {P Q:List Itm} {x:Itm} (h:addS P x=(Q,0)):insS P x=(Q,0):=by
 unfold addS at h
 by_cases hc:chkI x=0
 ·rw [if_neg (by simp [hc])] at h; exact h
 ·rw [if_pos hc] at h
  have:=congrArg Prod.snd h
  exact absurd this hc
theorem addS_bad {P:List Itm} {x:Itm} (h:(addS P x).2 ≠ 0):(addS P x).1=[]:=by
 unfold addS at h ⊢
 by_cases hc:chkI x=0
 ·rw [if_neg (by simp [hc])] at h ⊢
  unfold insS at h ⊢
  split
  ·split
   ·split
    ·rename_i h1 h2 h3; rw [h1] at h; simp [h2,h3] at h
    ·rfl
   ·rename_i h1 h2; rw [h1] at h; simp [h2] at h
  ·rename_i h1; rw [h1] at h; simp at h
 ·rw [if_pos hc]
theorem UnP.next {R:Rdr} {pa:Option Addr} {k:Nat} {a:Option Addr} {c:Nat} {P Q:List Itm} {W W':World} {x:Itm} (h:UnP R pa k a c P W) (hw:R.ib + 1 < W.heap.size) {a':Option Addr} {c':Nat} (hp:PoolAt W a P Q a' c' W') (hx:(x.data.length:Int)<=140737488355328) (hq:addS P x=(Q,0)):UnP R pa (k + 1) a' c' Q W':=by
 obtain ⟨h1,h2,h3,h4⟩:=hp
 obtain ⟨g1,g2,g3⟩:=ins_law h.asc (addS_ok hq)
 refine ⟨h1,h2,g1,by have:=h.len; omega,fun y hy=>?_,?_⟩
 ·rcases (g2 y).1 hy with h5 | rfl
  ·exact h.dat y h5
  ·exact hx
 ·rcases h3 with ⟨rfl,rfl⟩ | h3
  ·exact h.or_
  ·exact .inr (fun ad had=>by have:=h3 ad had; omega)
theorem punpack_any (s:List UInt8) (xs:List Itm) (pa:Option Addr) (pc:Nat) (w:World) (hl:(s.length:Int)<=70368744177664) (hits:Its w.heap.size w pa xs) (hp:PoolR xs pc) (hxl:(xs.length:Int)<=1000000):Calls Tryz.prog 20 #[.string ⟨s.toArray⟩,.slice pa xs.length pc] w (GotPE w pa xs (unpackS s xs)):=by
 have HITS:=hid hits
 have HP:=hid hp
 have HN:=hid (newr_any s xs pa pc w hl hits hp)
 unfold GotNr at HN
 obtain ⟨U,hU⟩:∃ U,U=unpackS s xs:=⟨_,rfl⟩
 rw [<-hU]
 unfold unpackS at hU
 obtain ⟨l,er,hE⟩:∃ l er,entriesS s=(l,er):=⟨_,_,rfl⟩
 rw [hE] at hU HN
 simp only at HN hU
 have HU:=hid hU
 have HXL:=hid hxl
 obtain ⟨nx,hnx⟩:∃ nx,nx=xs.length:=⟨_,rfl⟩
 have HNX:=hid hnx
 rw [<-hnx] at HN ⊢
 clear hU hE hits hp hl hxl hnx
 unfold GotPE
 go_enter Tryz.func20,Tryz.ntmps20
 go_wp2_with fail
 (with_reducible refine (HN.out).mono ?_)
 rintro e u ⟨R,rfl,rfl,rfl,rfl,hok,hin,hb,hib⟩
 by_cases her:er=0
 case neg=>
  have hne:(er != 0)=true:=by simpa using her
  have hte:=HU.out
  rw [if_pos her] at hte
  subst hte
  clear HU HN
  go_wp2_with fail
  go_ret2
  exact ⟨none,0,rfl,PoolAt.none _ _ hb⟩
 case pos=>
 subst her
 have HU2:Hid (U=unGo R.dat R.l (R.l.length - 0) 0 R.xs):=hid (by rw [HU.out,if_neg (by simp)]; rfl)
 have hbx:=hin.box
 have hll:=hok.ll
 obtain ⟨n,hn⟩:∃ n,n=R.l.length:=⟨_,rfl⟩
 have HNL:=hid hn
 obtain ⟨x0,x1,x2,x3,x4⟩:=BK.c5 (show BK _ #[.string ⟨R.s.toArray⟩,.slice R.ea R.l.length R.ec,.slice R.pa R.xs.length R.pc,.map (some R.ib),.map (some (R.ib + 1))] _ _ from hbx)
 rw [<-hn] at x1 hll
 have HIN:=hid hin
 have HOK:=hid hok
 have HB:=hid hb
 have HIB:=hid hib
 have HUP:Hid (UnP R pa 0 pa pc R.xs u):=hid ⟨HITS.out.ahead hb,HP.out.pc,HP.out.asc,by omega,HP.out.xd,.inl ⟨rfl,rfl⟩⟩
 clear hn hbx hin hok hb hib HU HN HP
 go_wp2_with fail
 clear x0 x1 x2 x3 x4
 go_loopw [8,27] (fun p i wr=>∃ (k:Nat) (a:Option Addr) (c:Nat) (P:List Itm) (K:Int->Option Value),k<=n/\p = .slice a P.length c/\i = .int .i64 (k:Int)/\Hid (U=unGo R.dat R.l (R.l.length - k) k P)/\Hid (UnP R pa k a c P wr)/\Hid (R.In K wr)/\Hid (Below w.heap.size w wr)) (fun _ i _=>n - (intOf i).toNat)
 case atStart=>exact ⟨0,pa,pc,R.xs,fun _=>none,by omega,by rw [HNX.out],rfl,HU2,HUP,HIN,HB⟩
 case round=>
  clear HU2 HUP HIN HB
  obtain ⟨k,a,c,P,K,hk,rfl,rfl,HU,HP,HI,HB⟩:=hrel
  obtain ⟨np,hnp⟩:∃ np,np=P.length:=⟨_,rfl⟩
  have HNP:=hid hnp
  rw [<-hnp]
  clear hnp
  by_cases hlt:k < n
  ·have hki:(k:Int) < (n:Int):=by omega
   have hkl:k < R.l.length:=by rw [<-HNL.out]; exact hlt
   obtain ⟨bl,ofl,hea,hblt,q0,q1,q2,q3,q4,q5,q6⟩:=pe_cells HI.out.ents hkl
   obtain ⟨D,de,hdd⟩:∃ D de,R.dat k=(D,de):=⟨_,_,rfl⟩
   have hdl:=dat_len HOK.out (k + 1) k (by omega) hkl
   have hst:=HU.out.trans (unGo_step hkl P)
   rw [hdd] at hst hdl
   simp only at hst hdl
   have HST:=hid hst
   have hrlt:=HI.out.lt
   obtain ⟨v,hv⟩:∃ v,v=wr.alloc (.cells (peCs R.l[k]).toArray 53):=⟨_,rfl⟩
   have hbv:Below wr.heap.size wr v:=by rw [hv]; exact (Below.refl _ _).alloc (Nat.le_refl _) _
   have hbe:BK wr.heap.size (peCs R.l[k]).toArray 53 v:=by rw [hv]; exact BK.new _ _ _
   have HBV:=hid hbv
   have HG:=hid (get_all HOK.out (k + 1) k (by omega) hkl K v (HI.out.below hbv))
   unfold GotRd foundV at HG
   rw [hdd] at HG
   simp only at HG
   have hadd:=fun W a2=>add_any a2 P c R.l[k].d.1 R.l[k].d.2 D W
   generalize R.l[k]=x at *
   obtain ⟨⟨d1,d2⟩,kd,⟨b1,b2⟩,off,len⟩:=x
   simp only [peCs] at q0 q1 q2 q3 q4 q5 q6 hv HST hadd hbe
   have HBE:=hid hbe
   have HADD:=hid hadd
   have HV:=hid hv
   clear hv hbv hbe hadd hst hdd hkl
   rw [hea]
   go_wp2_with fail
   rw [<-HV.out]
   clear q0 q1 q2 q3 q4 q5 q6 HV
   (with_reducible refine (HG.out).mono ?_)
   rintro e u2 ⟨rfl,⟨K',hin2,hkk⟩,hg⟩
   have hgw:wr.grownBy u2 (some (R.ib + 1)):=gtrans (below_grownBy HBV.out) hg
   obtain ⟨v,hv⟩:∃ v,v=u2.alloc (.cells #[.string ⟨D.toArray⟩,.int .i64 de] 98):=⟨_,rfl⟩
   have hbv2:Below u2.heap.size u2 v:=by rw [hv]; exact (Below.refl _ _).alloc (Nat.le_refl _) _
   have hf:BK u2.heap.size #[.string ⟨D.toArray⟩,.int .i64 de] 98 v:=by rw [hv]; exact BK.new _ _ _
   have he:=(HBE.out.grow1 hg (by omega)).below hbv2
   have hgv:=gtrans hgw (below_grownBy (b:=R.ib + 1) hbv2)
   have HP2:=hid (HP.out.grown HITS.out HIB.out hgv)
   have HI2:=hid (hin2.below hbv2)
   have HB2:=hid (below_of_grown HB.out hgv (by have:=HIB.out; omega))
   have hvl:=HI2.out.lt
   obtain ⟨f0,f1⟩:=BK.c2 (show BK _ #[.string ⟨D.toArray⟩,.int .i64 de] _ _ from hf)
   obtain ⟨e0,e1,e2,e3,e4,e5,e6⟩:=BK.c7 (show BK _ #[.int .u64 d1,.int .u64 d2,.int .i64 kd,.int .u64 b1,.int .u64 b2,.int .i64 (off:Int),.int .i64 (len:Int)] _ _ from he)
   have HV:=hid hv
   rw [hv] at f0 f1 e0 e1 e2 e3 e4 e5 e6
   clear hbv2 hf he hgv hgw hg hin2 hkk HG HBE HBV HP HI HB
   by_cases hde:de=0
   case neg=>
    have hne:(de != 0)=true:=by simpa using hde
    have hU:=HST.out
    rw [if_pos hde] at hU
    subst hU
    clear HST HADD hde HU
    go_wp2_with fail
    go_region
    clear f0 f1 e0 e1 e2 e3 e4 e5 e6
    go_wp2_with fail
    go_ret2
    exact ⟨none,0,rfl,PoolAt.none _ _ (by rw [<-HV.out]; exact HB2.out.drew)⟩
   case pos=>
   subst hde
   have HST2:Hid (U=if (addS P ⟨(d1,d2),D⟩).2 ≠ 0 then ([],(addS P ⟨(d1,d2),D⟩).2) else unGo R.dat R.l (R.l.length - (k + 1)) (k + 1) (addS P ⟨(d1,d2),D⟩).1):=hid (by rw [HST.out,if_neg (by simp)])
   have HA:=hid (HADD.out v a (HP2.out.pool HXL.out (by omega)) HP2.out.asc hdl)
   unfold GotPE at HA
   rw [<-HNP.out] at HA
   have HAB:Hid ((addS P ⟨(d1,d2),D⟩).2 ≠ 0->(addS P ⟨(d1,d2),D⟩).1=[]):=hid addS_bad
   obtain ⟨Q,ae,hqa⟩:∃ Q ae,addS P ⟨(d1,d2),D⟩=(Q,ae):=⟨_,_,rfl⟩
   have HQA:=hid hqa
   rw [hqa] at HA HST2 HAB
   simp only at HA HST2 HAB
   clear hqa HST HADD HU
   go_wp2_with fail
   rw [<-HV.out]
   clear hv HV f0 f1 e0 e1 e2 e3 e4 e5 e6
   (with_reducible refine (HA.out).mono ?_)
   rintro e3 u3 ⟨a3,c3,rfl,hpo⟩
   have HB3:=hid (HB2.out.trans (hpo.2.2.2.mono HB2.out.size))
   by_cases hae:ae=0
   case neg=>
    have hne:(ae != 0)=true:=by simpa using hae
    have hU:=HST2.out
    rw [if_pos hae] at hU
    subst hU
    clear HST2 HA HAB hae
    go_wp2_with fail
    go_ret2
    exact ⟨none,0,rfl,PoolAt.none _ _ HB3.out⟩
   case pos=>
   subst hae
   have HU4:Hid (U=unGo R.dat R.l (R.l.length - (k + 1)) (k + 1) Q):=hid (by rw [HST2.out,if_neg (by simp)])
   have HP4:=hid (HP2.out.next (by omega) hpo hdl HQA.out)
   have HI4:=hid (HI2.out.below hpo.2.2.2)
   clear HST2 HA HAB HP2 HI2 HB2 hpo HQA
   go_wp2_with fail
   go_roundw
   case rel=>exact ⟨k + 1,a3,c3,Q,K',by omega,rfl,by go_num,HU4,HP4,HI4,HB3⟩
   case measure=>simp [intOf] <;> omega
  ·obtain rfl:k=n:=by omega
   have hki:¬ (k:Int) < (k:Int):=by omega
   have hU:U=(P,0):=by rw [HU.out,HNL.out,Nat.sub_self,unGo]
   subst hU
   rw [HNP.out]
   have HPO:Hid (PoolAt w pa R.xs P a c wr):=hid ⟨HP.out.its,HP.out.cap,HP.out.or_.elim (fun h=>.inl h) (fun h=>.inr (fun ad had=>by have:=h ad had; have:=HIB.out; omega)),HB.out⟩
   clear HU HP HI HB
   go_wp2_with fail
   go_ret2
   exact ⟨a,c,rfl,HPO.out⟩
end Go.Proofs.YtijkieiihpiljaaGreat
