/- Joined texts: RpA, RpB, PoOp, RpC, RpD, RpE, RpF, RpG. -/
import Derived.Test.YtijkieiihpiljaaGreatK6
import Derived.Test.YtijkieiihpiljaaGreatK5
import Derived.Test.YtijkieiihpiljaaGreatK4
/- The reference's Check of pools. -/
set_option maxRecDepth 100000
set_option maxHeartbeats 16000000
open Go.Lib (hid)
namespace Go.Proofs.YtijkieiihpiljaaGreat
open Go.RowKit Go.Shelf
set_option linter.unusedVariables false
theorem rpcheck_any (a:Option Addr) (xs:List Itm) (c:Nat) (w:World) (hp:Its w.heap.size w a xs) (hn:(xs.length:Int)<=1000000) (hd:∀ x ∈ xs,(x.data.length:Int)<=1000000) :
  Calls Tryz.prog 30 #[.slice a xs.length c] w fun e w'=>e = .returned (.int .i64 (checkP xs))/\Below w.heap.size w w':=by
 obtain ⟨R,hR⟩:∃ R,R=checkP xs:=⟨_,rfl⟩
 rw [<-hR]
 have HF:=hid hR
 obtain ⟨n,hnn⟩:∃ n,n=xs.length:=⟨_,rfl⟩
 rw [<-hnn] at hn ⊢
 have HN:=hid hnn
 have HP:=hid hp
 have HDT:=hid hd
 clear hnn hp hR hd
 go_enter Tryz.func30,Tryz.ntmps30
 go_wp2_with fail
 go_loopw [3] (fun i wr=>∃ k:Nat,k<=n/\i = .int .i64 k/\Hid (Below w.heap.size w wr)/\Hid (CR xs k)) (fun i _=>n - (intOf i).toNat)
 case atStart=>exact ⟨0,by omega,rfl,hid (Below.refl _ _),hid (CR.start xs)⟩
 case round=>
  obtain ⟨k,hk,rfl,HB,HE⟩:=hrel
  have hws:=HB.out.size
  by_cases hlt:k < n
  ·have h1:k < xs.length:=by rw [<-HN.out]; exact hlt
   obtain ⟨p0,o0,rfl,hp0,q0,q1,q2⟩:=(HP.out.ahead HB.out) k h1
   have hdl:=HDT.out _ (List.getElem_mem h1)
   have HST:=hid (HE.out.step h1)
   have HPV:Hid (∀ j (hj:j < xs.length),k=j + 1->prevP xs k=some xs[j].d):=hid (fun j hj e=>by subst e; rw [prevP,List.getElem?_eq_getElem hj]; rfl)
   generalize hit:xs[k]=it at q0 q1 q2 HST hdl
   have HIT:=hid hit
   clear hit
   obtain ⟨⟨i1,i2⟩,dt⟩:=it
   simp only at q0 q1 q2 hdl
   have HDC:=hid (rdecode_any dt wr hdl)
   have HOf:=hid (fun W=>refOf_any dt W (by omega))
   have HCI:Hid (chkI ⟨(i1,i2),dt⟩=if (decodeS dt).2 ≠ 0 then 13 else if digS dt ≠ (i1,i2) then 15 else 0):=hid rfl
   generalize decodeS dt=D at HDC HCI
   generalize digS dt=dg at HOf HCI
   obtain ⟨o,er⟩:=D
   obtain ⟨g1,g2⟩:=dg
   obtain ⟨kind,data,ents,⟨t1,t2⟩,pars,author,time,msg⟩:=o
   simp only at HDC HOf HCI
   generalize chkI ⟨(i1,i2),dt⟩=ci at HCI HST
   have hkn:(k:Int) < (n:Int):=by omega
   go_wp2_with fail
   (with_reducible refine (HDC.out).mono ?_)
   rintro e u ⟨ea,ec,pa,pc,rfl,_,hb⟩
   have HBW:Hid (Below wr.heap.size wr u):=hid hb
   clear hb HDC
   simp only [Ob.val]
   generalize ents.length=ne
   generalize pars.length=np
   obtain ⟨u2,hu2⟩:∃ u2,u2=u.alloc (.cells #[.int .i64 kind,.string ⟨data.toArray⟩,.slice ea ne ec,.int .u64 t1,.int .u64 t2,.slice pa np pc,.string ⟨author.toArray⟩,.int .i64 time,.string ⟨msg.toArray⟩] 56):=⟨_,rfl⟩
   have HBW2:Hid (Below wr.heap.size wr u2):=hid (by rw [hu2]; exact HBW.out.alloc HBW.out.size _)
   have HB2:Hid (Below w.heap.size w u2):=hid (HB.out.trans (HBW2.out.mono hws))
   have hz2:w.heap.size<=u2.heap.size:=HB2.out.size
   have HU2:=hid hu2
   clear hu2 q0 q1 q2
   obtain ⟨_,_,hpe,_,q0,q1,q2⟩:=(HP.out.ahead HB2.out) k h1
   cases hpe
   rw [HIT.out] at q0 q1 q2
   simp only at q0 q1 q2
   by_cases he:er=0
   ·subst he
    have HCI2:Hid (ci=if (g1,g2) ≠ (i1,i2) then 15 else 0):=hid (by rw [HCI.out,if_neg (by simp)])
    clear HCI
    have f0:=cell_regrown q0
    have f1:=cell_regrown q1
    have f2:=cell_regrown q2
    have hq:=fun W=>neq_dig g1 g2 i1 i2 W
    have HA:=hid (fun d os=>Calls.regrown_of (w:=u2) (d:=d) (os:=os) (HOf.out _))
    cases hz:(g1 == i1 && g2 == i2) with
    | false=>
     rw [hz] at hq
     have HR:Hid (R=15):=hid (by
      have hci:ci=15:=by
       rw [HCI2.out,if_pos]
       intro h
       simp only [Prod.mk.injEq] at h
       simp [h.1,h.2] at hz
      rw [HF.out,HST.out,hci,if_pos (by decide)])
     clear hz HCI2 HST HE
     go_wp2_with fail
     rw [<-HU2.out]
     refine wp_region_quiet_below (by kernel_rfl) (by kernel_rfl) ?_
     repeat (any_goals (first | go_big_quiet_step (first | (with_reducible exact HA.out _ _)) | quiet_step (first | (with_reducible exact HA.out _ _))))
     refine wpQuiet_nil ?_
     intro w2 hw2
     have HB3:=hid (HB2.out.trans ((below_rg hw2).mono hz2))
     clear hw2 HA f0 f1 f2
     go_wp2_with fail
     go_ret
     exact ⟨by rw [HR.out]; rfl,HB3.out⟩
    | true=>
     rw [hz] at hq
     have HST2:Hid (checkP xs=if prevD (prevP xs k) (i1,i2)=true then 10 else chkGo (prevP xs (k + 1)) (xs.drop (k + 1))):=hid (by
      have hci:ci=0:=by
       rw [HCI2.out,if_neg]
       simp only [Bool.and_eq_true,beq_iff_eq] at hz
       simp [hz.1,hz.2]
      rw [HST.out,hci,if_neg (by simp)])
     clear hz HCI2 HST HE
     go_wp2_with fail
     rw [<-HU2.out]
     refine wp_region_quiet_below (by kernel_rfl) (by kernel_rfl) ?_
     repeat (any_goals (first | go_big_quiet_step (first | (with_reducible exact HA.out _ _)) | quiet_step (first | (with_reducible exact HA.out _ _))))
     refine wpQuiet_nil ?_
     intro w2 hw2
     have HBW3:=hid (HBW2.out.trans ((below_rg hw2).mono HBW2.out.size))
     have HB3:=hid (HB2.out.trans ((below_rg hw2).mono hz2))
     have hz3:w.heap.size<=w2.heap.size:=HB3.out.size
     clear hw2 HA f0 f1 f2 q0 q1 q2 HU2
     obtain ⟨_,_,hpe,_,q0,q1,q2⟩:=(HP.out.ahead HB3.out) k h1
     cases hpe
     rw [HIT.out] at q0 q1 q2
     simp only at q0 q1 q2
     by_cases hk0:k=0
     ·have g0:decide ((0:Int) < (k:Int))=false:=by simp; omega
      have g1:decide (0 < k)=false:=by simp; omega
      have HR:Hid (CR xs (k + 1)):=hid (by
       unfold CR
       rw [HST2.out,if_neg]
       rw [hk0]; simp [prevP,prevD])
      clear hk0 HST2
      go_wp2_with fail
      go_quiet (fail)
      go_wp2_with fail
      go_roundw
      case rel=>exact ⟨k + 1,by omega,by go_num,hid (below_drewN HB3.out _),HR⟩
      case measure=>simp [intOf] <;> omega
     ·have g0:decide ((0:Int) < (k:Int))=true:=by simp; omega
      have g1:decide (0 < k)=true:=by simp; omega
      obtain ⟨j,hj⟩:∃ j,k=j + 1:=⟨k - 1,by omega⟩
      have hj1:j < xs.length:=by omega
      obtain ⟨_,_,hbe,_,j0,j1,_⟩:=(HP.out.ahead HB3.out) j hj1
      cases hbe
      have hjk:(k:Int) - 1=(j:Int):=by omega
      have hjw:IntKind.i64.wrap ((k:Int) - 1)=(j:Int):=by rw [hjk]; exact wrap_i64 (by omega) (by omega)
      have hjb:(j:Int) < (n:Int):=by omega
      have HPV2:=hid (HPV.out j hj1 hj)
      clear HPV
      generalize xs[j]=ij at j0 j1 HPV2
      obtain ⟨⟨j1',j2'⟩,jd⟩:=ij
      simp only at j0 j1 HPV2
      have HCM:=hid (fun W=>refCmp_any j1' j2' i1 i2 W)
      have HST3:Hid (R=if 0<=cmpD (j1',j2') (i1,i2) then 10 else chkGo (prevP xs (k + 1)) (xs.drop (k + 1))):=hid (by
       rw [HF.out,HST2.out,HPV2.out]
       have ha:=cmpD_anti (a:=(i1,i2)) (b:=(j1',j2'))
       by_cases hc:0<=cmpD (j1',j2') (i1,i2)
       ·rw [if_pos hc,if_pos]; simp [prevD]; omega
       ·rw [if_neg hc,if_neg]; simp [prevD]; omega)
      generalize cmpD (j1',j2') (i1,i2)=cv at HCM HST3
      have HA:=hid (fun d os=>Calls.regrown_of (w:=w2) (d:=d) (os:=os) (HCM.out _))
      have f0:=cell_regrown q0
      have f1:=cell_regrown q1
      have e0:=cell_regrown j0
      have e1:=cell_regrown j1
      clear HST2 HPV2 HCM hj hjk hk0
      by_cases hc:0<=cv
      ·have dc:decide (0<=cv)=true:=by simpa using hc
       have HR:Hid (R=10):=hid (by rw [HST3.out,if_pos hc])
       clear HST3 hc
       go_wp2_with fail
       refine wp_region_quiet_below (by kernel_rfl) (by kernel_rfl) ?_
       repeat (any_goals (first | go_big_quiet_step (first | (with_reducible exact HA.out _ _)) | quiet_step (first | (with_reducible exact HA.out _ _))))
       refine wpQuiet_nil ?_
       intro w3 hw3
       have HB4:=hid (HB3.out.trans ((below_rg hw3).mono hz3))
       clear hw3 HA f0 f1 e0 e1
       go_wp2_with fail
       go_ret
       exact ⟨by rw [HR.out]; rfl,HB4.out⟩
      ·have dc:decide (0<=cv)=false:=by simpa using hc
       have HR:Hid (CR xs (k + 1)):=hid (by unfold CR; rw [<-HF.out,HST3.out,if_neg hc])
       clear HST3 hc
       go_wp2_with fail
       refine wp_region_quiet_below (by kernel_rfl) (by kernel_rfl) ?_
       repeat (any_goals (first | go_big_quiet_step (first | (with_reducible exact HA.out _ _)) | quiet_step (first | (with_reducible exact HA.out _ _))))
       refine wpQuiet_nil ?_
       intro w3 hw3
       have HB4:=hid (HB3.out.trans ((below_rg hw3).mono hz3))
       clear hw3 HA f0 f1 e0 e1
       go_wp2_with fail
       go_roundw
       case rel=>exact ⟨k + 1,by omega,by go_num,HB4,HR⟩
       case measure=>simp [intOf] <;> omega
   ·have hne:(er != 0)=true:=by simpa using he
    have HR:Hid (R=13):=hid (by
     have hci:ci=13:=by rw [HCI.out,if_pos he]
     rw [HF.out,HST.out,hci,if_pos (by decide)])
    clear he HST HE HCI
    go_wp2_with fail
    rw [<-HU2.out]
    go_ret
    exact ⟨by rw [HR.out]; rfl,HB2.out⟩
  ·have HR:Hid (R=0):=hid (by rw [HF.out]; exact HE.out.fin (by rw [<-HN.out]; omega))
   go_wp2_with fail
   go_ret
   exact ⟨by rw [HR.out]; rfl,HB.out⟩
open Go.ChangeShapes Go.WideShapes Go.ChangeAt Go.RowKit Go.Deep Go.Shelf
theorem chkGo_zero:∀ {xs:List Itm} {p:Option (Int × Int)},chkGo p xs=0->(∀ x ∈ xs,chkI x=0)/\Asc xs/\(∀ q,p=some q->∀ x ∈ xs,cmpD q x.d < 0)
 | [],p,_=>⟨by simp,fun i j hi=>by simp at hi,by simp⟩
 | x :: xs,p,h=>by
  rw [chkGo] at h
  by_cases h1:chkI x=0
  ·rw [if_neg (by simpa using h1)] at h
   obtain ⟨h2,h3⟩:=ne_if h (by decide)
   obtain ⟨i1,i2,i3⟩:=chkGo_zero h3
   have hx:∀ q,p=some q->cmpD q x.d < 0:=fun q hq=>by
    subst hq
    simp only [prevD,decide_eq_true_eq] at h2
    have:=cmpD_anti (a:=x.d) (b:=q)
    omega
   refine ⟨fun y hy=>?_,?_,fun q hq y hy=>?_⟩
   ·rcases List.mem_cons.1 hy with rfl | hy
    ·exact h1
    ·exact i1 y hy
   ·intro i j hi hj hij
    cases i with
    | zero=>
     cases j with
     | zero=>omega
     | succ j=>simp only [List.getElem_cons_zero,List.getElem_cons_succ]; exact i3 _ rfl _ (List.getElem_mem _)
    | succ i=>
     cases j with
     | zero=>omega
     | succ j=>simp only [List.getElem_cons_succ]; exact i2 i j (by simp at hi; omega) (by simp at hj; omega) (by omega)
   ·rcases List.mem_cons.1 hy with rfl | hy
    ·exact hx q hq
    ·exact cmpD_trans (hx q hq) (i3 _ rfl y hy)
  ·rw [if_pos h1] at h; exact absurd h h1
theorem checkP_zero {xs:List Itm} (h:checkP xs=0):(∀ x ∈ xs,chkI x=0)/\Asc xs:=⟨(chkGo_zero h).1,(chkGo_zero h).2.1⟩
def fineB (xs:List Itm):Bool:=!pgreatS xs && (checkP xs == 0)
theorem fineB_true {xs:List Itm} (h:fineB xs=true):xs.length<=40/\(∀ x ∈ xs,x.data.length<=500)/\checkP xs=0/\Asc xs/\∀ x ∈ xs,chkI x=0:=by
 simp only [fineB,Bool.and_eq_true,Bool.not_eq_true',beq_iff_eq] at h
 have h1:=pgreatS_false h.1
 have h2:=checkP_zero h.2
 exact ⟨h1.1,h1.2,h.2,h2.2,h2.1⟩
section
variable {H:Type} {enc:TypeId × Value->H} {W:World}
theorem trod_itm {fuel:Nat} {cs:List Value} {x:DataW H × List MemPlace} (h:DataW.trod enc Tryz.prog W 0 (fun _=>true) true fuel 63 cs=some x):∃ e:Itm,cs=[.int .u64 e.d.1,.int .u64 e.d.2,.string ⟨e.data.toArray⟩]/\OkD e.d/\e.data.length<=maxLen:=by
 obtain ⟨xs,n,_,_,hl,hxl,hf⟩:=DataW.trod_struct Tryz.underlying63 h
 rw [show Tryz.prog.cellsOf 63 = 3 by kernel_rfl] at hl
 match cs,hl with
 | [c0,c1,c2],_=>
  match xs,hxl with
  | [x0,x1],_=>
   obtain ⟨d,e2,w0,w1⟩:=trod_digest (show DataW.trod enc Tryz.prog W 0 (fun _=>true) true n 41 [c0,c1]=some x0 from hf 0 _ rfl)
   obtain ⟨s,e0,_,ws⟩:=DataW.trod_string Tryz.underlying9 (show DataW.trod enc Tryz.prog W 0 (fun _=>true) true n 9 [c2]=some x1 from hf 1 _ rfl)
   cases e0
   cases e2
   exact ⟨⟨d,s.data.toList⟩,by rw [<-ba_eq (t:=s) rfl],okD_wf w0 w1,ws⟩
structure PoolCame (W:World) (a:Option Addr) (xs:List Itm) (c:Nat):Prop where
 its:Its W.heap.size W a xs
 cap:xs.length<=c/\c<=maxLen
 dat:∀ x ∈ xs,OkD x.d/\x.data.length<=maxLen
theorem open_pool {r:Reach} {b0:Nat} {v:Value} {d:DataW H} {p:List MemPlace} (hv:Value.okWide Tryz.prog W r b0 23 v) (h:DataW.Trod enc Tryz.prog W 0 (fun _=>true) true 23 v d p) :
  ∃ (a:Option Addr) (xs:List Itm) (c:Nat),v = .slice a xs.length c/\PoolCame W a xs c:=by
 obtain ⟨a,len,cap,rfl⟩:=okWide_slice Tryz.underlying23 hv
 obtain ⟨fuel,hf⟩:=h
 simp only [Value.cells] at hf
 obtain ⟨hl,hr⟩:=open_rows Tryz.underlying23 (C:=3) (by kernel_rfl) (by decide) hf
 obtain ⟨xs,hxs,hq⟩:=list_of (fun i (e:Itm)=>(∃ b off,a=some ⟨b,off,none⟩/\b < W.heap.size/\W.cell? ⟨b,off + i * 3,none⟩=some (.int .u64 e.d.1)/\W.cell? ⟨b,off + i * 3 + 1,none⟩=some (.int .u64 e.d.2)/\W.cell? ⟨b,off + i * 3 + 2,none⟩=some (.string ⟨e.data.toArray⟩))/\OkD e.d/\e.data.length<=maxLen) len (fun i hi=>by
  obtain ⟨b,off,cs,n,y,ha,hb,_,hcell,ht⟩:=hr i hi
  obtain ⟨e,rfl,w0,w1⟩:=trod_itm ht
  exact ⟨e,⟨b,off,ha,hb,hcell 0 _ rfl,hcell 1 _ rfl,hcell 2 _ rfl⟩,w0,w1⟩)
 refine ⟨a,xs,cap,by rw [hxs],fun i hi=>(hq i hi).1,by omega,fun e he=>?_⟩
 obtain ⟨i,hi,rfl⟩:=List.getElem_of_mem he
 exact (hq i hi).2
theorem open_dig {r:Reach} {b0:Nat} {v:Value} {d:DataW H} {p:List MemPlace} (hv:Value.okWide Tryz.prog W r b0 41 v) (h:DataW.Trod enc Tryz.prog W 0 (fun _=>true) true 41 v d p) :
  ∃ x y:Int,v = .agg #[.int .u64 x,.int .u64 y]/\OkD (x,y):=by
 obtain ⟨cs,rfl⟩:∃ cs,v = .agg cs:=by
  simp only [Value.okWide,Tryz.underlying41] at hv
  obtain ⟨cs,h1,_⟩:=hv
  exact ⟨cs,h1⟩
 obtain ⟨fuel,hf⟩:=h
 obtain ⟨⟨x,y⟩,hcs,w0,w1⟩:=trod_digest hf
 refine ⟨x,y,?_,okD_wf w0 w1⟩
 simp [Value.cells] at hcs
 rw [<-Array.toList_inj.1 (show cs.toList = #[Value.int .u64 x,.int .u64 y].toList by simpa using hcs)]
theorem open_dlist {r:Reach} {b0:Nat} {v:Value} {d:DataW H} {p:List MemPlace} (hv:Value.okWide Tryz.prog W r b0 24 v) (h:DataW.Trod enc Tryz.prog W 0 (fun _=>true) true 24 v d p) :
  ∃ (a:Option Addr) (ds:List (Int × Int)) (c:Nat),v = .slice a ds.length c/\Digs W.heap.size W a ds/\(ds.length<=c/\c<=maxLen)/\∀ d ∈ ds,OkD d:=by
 obtain ⟨a,len,cap,rfl⟩:=okWide_slice Tryz.underlying24 hv
 obtain ⟨fuel,hf⟩:=h
 simp only [Value.cells] at hf
 obtain ⟨hl,ds,rfl,hd,hok⟩:=open_digs hf
 exact ⟨a,ds,cap,rfl,hd,by omega,fun d hd=>okD_wf (hok d hd).1 (hok d hd).2⟩
theorem open_ob {r:Reach} {b0:Nat} {v:Value} {d:DataW H} {p:List MemPlace} (hv:Value.okWide Tryz.prog W r b0 56 v) (h:DataW.Trod enc Tryz.prog W 0 (fun _=>true) true 56 v d p) :
  ∃ (o:Ob) (ea:Option Addr) (ec:Nat) (pa:Option Addr) (pc:Nat),v=o.val ea ec pa pc/\ObCame W o ea ec pa pc:=by
 obtain ⟨cs,rfl,hsz⟩:=okWide_struct Tryz.underlying56 hv
 obtain ⟨fuel,hf⟩:=h
 obtain ⟨o,ea,ec,pa,pc,hcs,hc⟩:=trod_ob hf
 refine ⟨o,ea,ec,pa,pc,?_,hc⟩
 have hcs:cs.toList=(o.arr ea ec pa pc).toList:=hcs
 rw [Ob.val,Array.toList_inj.1 hcs]
end
theorem asc_nil:Asc []:=fun i j hi=>by simp at hi
theorem asc_ext:∀ {xs ys:List Itm},Asc xs->Asc ys->(∀ x,x ∈ xs ↔ x ∈ ys)->xs=ys:=by
 have key:∀ {xs ys:List Itm} {x y:Itm},Asc (x :: xs)->Asc (y :: ys)->(∀ z,z ∈ x :: xs ↔ z ∈ y :: ys)->x=y:=by
  intro xs ys x y h1 h2 hm
  have hx:x ∈ y :: ys:=(hm x).1 (by simp)
  have hy:y ∈ x :: xs:=(hm y).2 (by simp)
  rcases List.mem_cons.1 hx with h | h
  ·exact h
  ·rcases List.mem_cons.1 hy with h' | h'
   ·exact h'.symm
   ·obtain ⟨i,hi,hxi⟩:=List.getElem_of_mem h
    obtain ⟨j,hj,hyj⟩:=List.getElem_of_mem h'
    have a1:=h2 0 (i + 1) (by simp) (by simp; omega) (by omega)
    have a2:=h1 0 (j + 1) (by simp) (by simp; omega) (by omega)
    simp only [List.getElem_cons_zero,List.getElem_cons_succ,hxi,hyj] at a1 a2
    have:=cmpD_anti (a:=x.d) (b:=y.d)
    omega
 have tail:∀ {xs:List Itm} {x:Itm},Asc (x :: xs)->Asc xs/\x ∉ xs:=by
  intro xs x h
  refine ⟨fun i j hi hj hij=>?_,fun hx=>?_⟩
  ·have:=h (i + 1) (j + 1) (by simp; omega) (by simp; omega) (by omega)
   simpa using this
  ·obtain ⟨i,hi,hxi⟩:=List.getElem_of_mem hx
   have:=h 0 (i + 1) (by simp) (by simp; omega) (by omega)
   simp only [List.getElem_cons_zero,List.getElem_cons_succ,hxi,cmpD_self] at this
   omega
 intro xs
 induction xs with
 | nil=>
  intro ys _ _ hm
  cases ys with
  | nil=>rfl
  | cons y ys=>exact absurd ((hm y).2 (by simp)) (by simp)
 | cons x xs ih=>
  intro ys h1 h2 hm
  cases ys with
  | nil=>exact absurd ((hm x).1 (by simp)) (by simp)
  | cons y ys=>
   obtain rfl:=key h1 h2 hm
   obtain ⟨t1,n1⟩:=tail h1
   obtain ⟨t2,n2⟩:=tail h2
   rw [ih t1 t2]
   intro z
   constructor
   ·intro hz
    rcases List.mem_cons.1 ((hm z).1 (List.mem_cons_of_mem _ hz)) with h | h
    ·subst h; exact absurd hz n1
    ·exact h
   ·intro hz
    rcases List.mem_cons.1 ((hm z).2 (List.mem_cons_of_mem _ hz)) with h | h
    ·subst h; exact absurd hz n2
    ·exact h
theorem asc_at {xs:List Itm} (h:Asc xs) (d:Int × Int):At xs d (posI xs d):=by
 suffices ∃ k,At xs d k by
  obtain ⟨k,hk⟩:=this
  rw [<-hk.eq]; exact hk
 induction xs with
 | nil=>exact ⟨0,by simp,fun j hj=>by simp at hj,fun j hj=>by simp at hj⟩
 | cons x xs ih=>
  have ht:Asc xs:=fun i j hi hj hij=>by
   have:=h (i + 1) (j + 1) (by simp; omega) (by simp; omega) (by omega)
   simpa using this
  by_cases hx:cmpD x.d d < 0
  ·obtain ⟨k,hk⟩:=ih ht
   refine ⟨k + 1,by have:=hk.le; simp; omega,fun j hj hlt=>?_,fun j hj hle=>?_⟩
   ·cases j with
    | zero=>simpa using hx
    | succ j=>simpa using hk.lo j (by simp at hj; omega) (by omega)
   ·cases j with
    | zero=>omega
    | succ j=>simpa using hk.hi j (by simp at hj; omega) (by omega)
  ·refine ⟨0,by omega,fun j hj hlt=>by omega,fun j hj _=>?_⟩
   cases j with
   | zero=>simp; omega
   | succ j=>
    have a1:=h 0 (j + 1) (by simp) hj (by omega)
    simp only [List.getElem_cons_zero] at a1
    exact cmpD_trans2 a1 (by omega)
theorem ins_law {xs ys:List Itm} {x:Itm} (h:Asc xs) (hi:insS xs x=(ys,0)):Asc ys/\(∀ y,y ∈ ys ↔ y ∈ xs\/y=x)/\ys.length<=xs.length + 1:=by
 have hat:=asc_at h x.d
 cases hh:hitB xs x.d (posI xs x.d) with
 | true=>
  obtain ⟨hk,hd,he⟩:=insS_hit hat hh
  rw [he] at hi
  split at hi
  ·rename_i hdat
   simp only [Prod.mk.injEq,and_true] at hi
   subst hi
   refine ⟨h,fun y=>⟨.inl,?_⟩,by omega⟩
   rintro (hy | rfl)
   ·exact hy
   ·have:xs[posI xs y.d]=y:=by
     cases hxx:xs[posI xs y.d] with
     | mk d' dt'=>
      rw [hxx] at hd hdat
      cases y
      simp only at hd hdat ⊢
      rw [hd,hdat]
    rw [<-this]; exact List.getElem_mem hk
  ·simp at hi
 | false=>
  rw [insS_miss hat hh] at hi
  simp only [Prod.mk.injEq,and_true] at hi
  subst hi
  generalize hp:posI xs x.d=k at hat hh
  have hle:=hat.le
  have hgt:∀ j (hj:j < xs.length),k<=j->0 < cmpD xs[j].d x.d:=by
   intro j hj hkj
   have h0:=hat.hi j hj hkj
   rcases Nat.lt_or_ge k j with hlt | hge
   ·have h1:=h k j (by omega) hj hlt
    have h2:=hat.hi k (by omega) (Nat.le_refl _)
    have g1:=cmpD_range xs[k].d xs[j].d
    have g2:=cmpD_range xs[k].d x.d
    have g3:=cmpD_range xs[j].d x.d
    omega
   ·obtain rfl:j=k:=by omega
    unfold hitB at hh
    rw [List.getElem?_eq_getElem hj] at hh
    simp only [decide_eq_false_iff_not] at hh
    have:cmpD xs[j].d x.d ≠ 0:=fun e=>hh (cmpD_zero.1 e)
    omega
  refine ⟨fun i j hi hj hij=>?_,fun y=>?_,by simp; omega⟩
  ·have hlen:(xs.take k).length=k:=by rw [List.length_take]; omega
   have get:∀ i (hi:i < (xs.take k ++ (x :: xs.drop k)).length),(i < k/\∃ h':i < xs.length,(xs.take k ++ (x :: xs.drop k))[i]=xs[i])\/(i=k/\(xs.take k ++ (x :: xs.drop k))[i]=x)\/(k < i/\∃ h':i - 1 < xs.length,(xs.take k ++ (x :: xs.drop k))[i]=xs[i - 1]):=by
    intro i hi
    have hil:i < xs.length + 1:=by simp at hi; omega
    rcases Nat.lt_trichotomy i k with h1 | h1 | h1
    ·left
     exact ⟨h1,by omega,by rw [List.getElem_append_left (by omega),List.getElem_take]⟩
    ·right; left
     subst h1
     refine ⟨rfl,?_⟩
     rw [List.getElem_append_right (by omega)]
     simp [hlen]
    ·right; right
     refine ⟨h1,by omega,?_⟩
     rw [List.getElem_append_right (by omega)]
     simp only [hlen]
     rw [List.getElem_cons]
     split
     ·omega
     ·rw [List.getElem_drop]
      congr 1
      omega
   have anti:=fun a b=>@cmpD_anti a b
   rcases get i hi with ⟨a1,a2,a3⟩ | ⟨a1,a3⟩ | ⟨a1,a2,a3⟩ <;> rcases get j hj with ⟨b1,b2,b3⟩ | ⟨b1,b3⟩ | ⟨b1,b2,b3⟩ <;> rw [a3,b3]
   ·exact h i j a2 b2 hij
   ·exact hat.lo i a2 a1
   ·rcases Nat.lt_or_ge i (j - 1) with h1 | h1
    ·exact h i (j - 1) a2 b2 h1
    ·omega
   ·omega
   ·omega
   ·have:=hgt (j - 1) b2 (by omega)
    have:=anti xs[j - 1].d x.d
    omega
   ·omega
   ·omega
   ·exact h (i - 1) (j - 1) a2 b2 (by omega)
  ·simp only [List.mem_append,List.mem_cons]
   constructor
   ·rintro (h1 | h1 | h1)
    ·exact .inl (List.mem_of_mem_take h1)
    ·exact .inr h1
    ·exact .inl (List.mem_of_mem_drop h1)
   ·rintro (h1 | h1)
    ·rw [<-List.take_append_drop k xs] at h1
     rcases List.mem_append.1 h1 with h2 | h2
     ·exact .inl h2
     ·exact .inr (.inr h2)
    ·exact .inr (.inl h1)
def itemO (o:Ob):Option Itm:=if (encodeS o).2=0 then some ⟨digS (encodeS o).1,(encodeS o).1⟩ else none
structure PoolOf (os:List Ob) (xs:List Itm):Prop where
 asc:Asc xs
 mem:∀ x,x ∈ xs ↔ ∃ o ∈ os,itemO o=some x
 len:xs.length<=os.length
theorem PoolOf.nil:PoolOf [] []:=⟨asc_nil,fun x=>by simp,Nat.le_refl _⟩
theorem PoolOf.skip {os:List Ob} {xs:List Itm} (h:PoolOf os xs) {o:Ob} (ho:itemO o=none):PoolOf (os ++ [o]) xs:=by
 refine ⟨h.asc,fun x=>?_,by have:=h.len; simp; omega⟩
 rw [h.mem]
 constructor
 ·rintro ⟨p,hp,hx⟩; exact ⟨p,by simp [hp],hx⟩
 ·rintro ⟨p,hp,hx⟩
  rcases List.mem_append.1 hp with h1 | h1
  ·exact ⟨p,h1,hx⟩
  ·rw [List.mem_singleton] at h1; subst h1; rw [ho] at hx; cases hx
theorem PoolOf.add {os:List Ob} {xs ys:List Itm} (h:PoolOf os xs) {o:Ob} {x:Itm} (ho:itemO o=some x) (ha:Asc ys) (hm:∀ y,y ∈ ys ↔ y ∈ xs\/y=x) (hl:ys.length<=xs.length + 1):PoolOf (os ++ [o]) ys:=by
 refine ⟨ha,fun y=>?_,by have:=h.len; simp; omega⟩
 rw [hm,h.mem]
 constructor
 ·rintro (⟨p,hp,hx⟩ | rfl)
  ·exact ⟨p,by simp [hp],hx⟩
  ·exact ⟨o,by simp,ho⟩
 ·rintro ⟨p,hp,hx⟩
  rcases List.mem_append.1 hp with h1 | h1
  ·exact .inl ⟨p,h1,hx⟩
  ·rw [List.mem_singleton] at h1; subst h1; rw [ho] at hx; cases hx; exact .inr rfl
theorem PoolOf.same {os os':List Ob} {xs ys:List Itm} (h:PoolOf os xs) (h':PoolOf os' ys) (hm:∀ o,o ∈ os ↔ o ∈ os'):xs=ys:=
 asc_ext h.asc h'.asc (fun x=>by
  rw [h.mem,h'.mem]
  constructor
  ·rintro ⟨o,ho,hx⟩; exact ⟨o,(hm o).1 ho,hx⟩
  ·rintro ⟨o,ho,hx⟩; exact ⟨o,(hm o).2 ho,hx⟩)
def FindR (xs:List Itm) (d:Int × Int) (n:Int):Prop:=(∃ k,∃ h:k < xs.length,n=(k:Int)/\xs[k].d=d)\/(n = -1/\∀ x ∈ xs,x.d ≠ d)
def GotFR (w:World) (xs:List Itm) (d:Int × Int) (e:Ending) (w':World):Prop:=∃ n:Int,e = .returned (.int .i64 n)/\FindR xs d n/\Below w.heap.size w w'
theorem rfind_any (a:Option Addr) (xs:List Itm) (c:Nat) (x y:Int) (w:World) (hp:Its w.heap.size w a xs) (hn:(xs.length:Int)<=9223372036854775807) :
  Calls Tryz.prog 77 #[.slice a xs.length c,.agg #[.int .u64 x,.int .u64 y]] w (GotFR w xs (x,y)):=by
 obtain ⟨n,hnn⟩:∃ n,n=xs.length:=⟨_,rfl⟩
 rw [<-hnn] at hn ⊢
 have HN:=hid hnn
 have HP:=hid hp
 clear hnn hp
 go_enter Tryz.func77,Tryz.ntmps77
 go_wp2_with fail
 go_loopw [5] (fun i wr=>∃ k q:Nat,k<=n/\i = .int .i64 k/\wr=(w.alloc (.cells #[.int .u64 x,.int .u64 y] 41)).drewN q/\Hid (∀ j (h:j < xs.length),j < k->xs[j].d ≠ (x,y))) (fun i _=>n - (intOf i).toNat)
 case atStart=>exact ⟨0,0,by omega,rfl,rfl,hid (fun j h hj=>by omega)⟩
 case round=>
  obtain ⟨k,q,hk,rfl,rfl,HT⟩:=hrel
  by_cases hlt:k < n
  ·have h1:k < xs.length:=by rw [<-HN.out]; exact hlt
   obtain ⟨b1,o1,rfl,hb1,c1,c2,_⟩:=HP.out k h1
   have c1':=fun z=>cell_a1 c1 z
   have c2':=fun z=>cell_a1 c2 z
   have HH:Hid (xs[k].d=(x,y)->FindR xs (x,y) (k:Int)):=hid (fun h=>.inl ⟨k,h1,rfl,h⟩)
   have HM:Hid (xs[k].d ≠ (x,y)->∀ j (h:j < xs.length),j < k + 1->xs[j].d ≠ (x,y)):=hid (fun hne j h hj=>by
    rcases Nat.lt_or_ge j k with h2 | h2
    ·exact HT.out j h h2
    ·obtain rfl:j=k:=by omega
     exact hne)
   generalize xs[k]=it at c1 c2 c1' c2' HH HM
   obtain ⟨⟨u,v⟩,dt⟩:=it
   simp only at c1 c2 c1' c2' HH HM
   have hq:=fun W=>eql_dig u v x y W
   cases hz:(u == x && v == y) with
   | true=>
    rw [hz] at hq
    have HF:=hid (HH.out (by
     simp only [Bool.and_eq_true,beq_iff_eq] at hz
     rw [hz.1,hz.2]))
    clear hz HH HM HT
    go_wp2_with fail
    go_quiet (fail)
    go_wp2_with fail
    go_ret
    exact ⟨(k:Int),rfl,HF.out,below_drewN (below_drewN ((Below.refl _ w).alloc (Nat.le_refl _) _) _) _⟩
   | false=>
    rw [hz] at hq
    have HF:=hid (HM.out (by
     intro h
     simp only [Prod.mk.injEq] at h
     simp [h.1,h.2] at hz))
    clear hz HH HM HT
    go_wp2_with fail
    go_quiet (fail)
    go_wp2_with fail
    go_roundw
    case rel=>exact ⟨k + 1,_,by omega,by go_num,by first | rfl | (simp only [World.drewN_drewN]; rfl),HF⟩
    case measure=>simp [intOf] <;> omega
  ·have HF:Hid (FindR xs (x,y) (-1)):=hid (.inr ⟨rfl,fun z hz=>by
    obtain ⟨j,hj,rfl⟩:=List.getElem_of_mem hz
    exact HT.out j hj (by have:=HN.out; omega)⟩)
   go_wp2_with fail
   go_ret
   exact ⟨-1,rfl,HF.out,below_drewN ((Below.refl _ w).alloc (Nat.le_refl _) _) _⟩
theorem at_uniq {xs:List Itm} (h:Asc xs) {k:Nat} (hk:k < xs.length) {d:Int × Int} (hd:xs[k].d=d):At xs d k:=by
 refine ⟨by omega,fun j hj hlt=>?_,fun j hj hle=>?_⟩
 ·rw [<-hd]; exact h j k hj hk hlt
 ·rcases Nat.lt_or_ge k j with h1 | h1
  ·have:=h k j hk hj h1
   rw [hd] at this
   have:=cmpD_anti (a:=xs[j].d) (b:=d)
   omega
  ·obtain rfl:j=k:=by omega
   rw [hd,cmpD_self]
   omega
theorem FindR.asc {xs:List Itm} {d:Int × Int} {n:Int} (h:FindR xs d n) (ha:Asc xs):(∃ k,∃ hk:k < xs.length,n=(k:Int)/\At xs d k/\hitB xs d k=true/\xs[k].d=d)\/(n = -1/\∀ k,hitB xs d k=false):=by
 rcases h with ⟨k,hk,hn,hd⟩ | ⟨hn,hd⟩
 ·exact .inl ⟨k,hk,hn,at_uniq ha hk hd,by unfold hitB; rw [List.getElem?_eq_getElem hk]; simpa using hd,hd⟩
 ·refine .inr ⟨hn,fun k=>?_⟩
  unfold hitB
  cases hx:xs[k]? with
  | none=>rfl
  | some x=>simp only [decide_eq_false_iff_not]; exact hd x (List.mem_of_getElem? hx)
theorem rhas_any (a:Option Addr) (xs:List Itm) (c:Nat) (x y:Int) (w:World) (hp:Its w.heap.size w a xs) (ha:Asc xs) (hn:(xs.length:Int)<=9223372036854775807) :
  Calls Tryz.prog 34 #[.slice a xs.length c,.agg #[.int .u64 x,.int .u64 y]] w fun e w'=>e = .returned (.bool (hasS xs (x,y)))/\Below w.heap.size w w':=by
 have HF:=hid (fun W (hW:Below w.heap.size w W)=>rfind_any a xs c x y W (hp.ahead hW) hn)
 obtain ⟨R,hR⟩:∃ R,R=hasS xs (x,y):=⟨_,rfl⟩
 rw [<-hR]
 have HR:Hid (∀ n,FindR xs (x,y) n->(0<=n/\R=true)\/(n = -1/\R=false)):=hid (fun n h=>by
  rcases h.asc ha with ⟨k,hk,h1,h2,h3,_⟩ | ⟨h1,h2⟩
  ·exact .inl ⟨by omega,by rw [hR,hasS,<-h2.eq,h3]⟩
  ·exact .inr ⟨h1,by rw [hR,hasS,h2]⟩)
 generalize xs.length=n at HF ⊢
 clear hp ha hR hn
 have HF0:=hid (HF.out (w.alloc (.cells #[.int .u64 x,.int .u64 y] 41)) ((Below.refl _ w).alloc (Nat.le_refl _) _))
 clear HF
 go_enter Tryz.func34,Tryz.ntmps34
 go_wp2_with fail
 (with_reducible refine (HF0.out).mono ?_)
 rintro e u ⟨m,rfl,hf,hb⟩
 have HB:Hid (Below w.heap.size w u):=hid (((Below.refl _ w).alloc (Nat.le_refl _) _).trans (hb.mono (by simp)))
 have HH:=hid (HR.out m hf)
 clear hf hb HR
 rcases HH.out with ⟨h1,h2⟩ | ⟨h1,h2⟩
 ·have HT:=hid h2
  have d0:decide (0<=m)=true:=by simpa using h1
  clear h2
  go_wp2_with fail
  go_ret
  exact ⟨by rw [HT.out]; rfl,HB.out⟩
 ·have HT:=hid h2
  subst h1
  clear h2
  go_wp2_with fail
  go_ret
  exact ⟨by rw [HT.out]; rfl,HB.out⟩
theorem rin_any (a:Option Addr) (ds:List (Int × Int)) (c:Nat) (x y:Int) (w:World) (hds:Digs w.heap.size w a ds) (hn:(ds.length:Int)<=9223372036854775807) :
  Calls Tryz.prog 28 #[.slice a ds.length c,.agg #[.int .u64 x,.int .u64 y]] w fun e w'=>e = .returned (.bool (decide ((x,y) ∈ ds)))/\Below w.heap.size w w':=by
 obtain ⟨R,hR⟩:∃ R,R=decide ((x,y) ∈ ds):=⟨_,rfl⟩
 rw [<-hR]
 obtain ⟨n,hnn⟩:∃ n,n=ds.length:=⟨_,rfl⟩
 rw [<-hnn] at hn ⊢
 have HR:=hid hR
 have HN:=hid hnn
 have HD:=hid hds
 clear hnn hR hds
 go_enter Tryz.func28,Tryz.ntmps28
 go_wp2_with fail
 go_loopw [5] (fun i wr=>∃ k q:Nat,k<=n/\i = .int .i64 k/\wr=(w.alloc (.cells #[.int .u64 x,.int .u64 y] 41)).drewN q/\Hid ((x,y) ∉ ds.take k)) (fun i _=>n - (intOf i).toNat)
 case atStart=>exact ⟨0,0,by omega,rfl,rfl,hid (by simp)⟩
 case round=>
  obtain ⟨k,q,hk,rfl,rfl,HT⟩:=hrel
  by_cases hlt:k < n
  ·have h1:k < ds.length:=by rw [<-HN.out]; exact hlt
   obtain ⟨b1,o1,rfl,hb1,c1,c2⟩:=HD.out k h1
   have c1':=fun z=>cell_a1 c1 z
   have c2':=fun z=>cell_a1 c2 z
   have HH:Hid (ds[k]=(x,y)->R=true):=hid (fun h=>by rw [HR.out]; exact decide_eq_true (by rw [<-h]; exact List.getElem_mem h1))
   have HM:=hid (fun (h:ds[k] ≠ (x,y))=>mem_take_succ h1 HT.out h)
   generalize ds[k]=dk at c1 c2 c1' c2' HH HM
   obtain ⟨u,v⟩:=dk
   simp only at c1 c2 c1' c2'
   have hq:=fun W=>eql_dig u v x y W
   cases hz:(u == x && v == y) with
   | true=>
    rw [hz] at hq
    have HF:=hid (HH.out (by
     simp only [Bool.and_eq_true,beq_iff_eq] at hz
     rw [hz.1,hz.2]))
    clear hz HH HM HT
    go_wp2_with fail
    go_quiet (fail)
    go_wp2_with fail
    go_ret
    exact ⟨by rw [HF.out]; rfl,below_drewN (below_drewN ((Below.refl _ w).alloc (Nat.le_refl _) _) _) _⟩
   | false=>
    rw [hz] at hq
    have HF:=hid (HM.out (by
     intro h
     simp only [Prod.mk.injEq] at h
     simp [h.1,h.2] at hz))
    clear hz HH HM HT
    go_wp2_with fail
    go_quiet (fail)
    go_wp2_with fail
    go_roundw
    case rel=>exact ⟨k + 1,_,by omega,by go_num,by first | rfl | (simp only [World.drewN_drewN]; rfl),HF⟩
    case measure=>simp [intOf] <;> omega
  ·have HF:Hid (R=false):=hid (by
    rw [HR.out]
    refine decide_eq_false ?_
    have:=HT.out
    rwa [List.take_of_length_le (by rw [<-HN.out]; omega)] at this)
   go_wp2_with fail
   go_ret
   exact ⟨by rw [HF.out]; rfl,below_drewN ((Below.refl _ w).alloc (Nat.le_refl _) _) _⟩
def uniF:Nat->List Itm->List Itm->Option (List Itm)
 | 0,_,_=>some []
 | _ + 1,[],[]=>some []
 | f + 1,[],y :: ys=>(uniF f [] ys).map (y :: ·)
 | f + 1,x :: xs,[]=>(uniF f xs []).map (x :: ·)
 | f + 1,x :: xs,y :: ys=>
  if cmpD x.d y.d=0 then (if x.data=y.data then (uniF f xs ys).map (x :: ·) else none)
  else if cmpD x.d y.d < 0 then (uniF f xs (y :: ys)).map (x :: ·) else (uniF f (x :: xs) ys).map (y :: ·)
theorem uniF_nil (f:Nat):uniF f [] []=some []:=by cases f <;> rfl
def UR (R:Option (List Itm)) (f:Nat) (l xs ys:List Itm):Prop:=R=(uniF f xs ys).map (l ++ ·)
theorem UR.start (xs ys:List Itm) (f:Nat):UR (uniF f xs ys) f [] xs ys:=by unfold UR; simp
theorem map_app (o:Option (List Itm)) (l:List Itm) (x:Itm):(o.map (x :: ·)).map (l ++ ·)=o.map ((l ++ [x]) ++ ·):=by
 cases o <;> simp
theorem UR.a {R:Option (List Itm)} {f:Nat} {l xs ys:List Itm} {x:Itm} (h:UR R (f + 1) l (x :: xs) ys) (hy:∀ y ∈ ys.head?,cmpD x.d y.d < 0):UR R f (l ++ [x]) xs ys:=by
 unfold UR at h ⊢
 rw [h,<-map_app]
 cases ys with
 | nil=>rfl
 | cons y ys=>
  have:=hy y rfl
  rw [uniF,if_neg (by omega),if_pos this]
theorem UR.b {R:Option (List Itm)} {f:Nat} {l xs ys:List Itm} {y:Itm} (h:UR R (f + 1) l xs (y :: ys)) (hx:∀ x ∈ xs.head?,0 < cmpD x.d y.d):UR R f (l ++ [y]) xs ys:=by
 unfold UR at h ⊢
 rw [h,<-map_app]
 cases xs with
 | nil=>rfl
 | cons x xs=>
  have:=hx x rfl
  rw [uniF,if_neg (by omega),if_neg (by omega)]
theorem UR.c {R:Option (List Itm)} {f:Nat} {l xs ys:List Itm} {x y:Itm} (h:UR R (f + 1) l (x :: xs) (y :: ys)) (hc:cmpD x.d y.d=0) (hd:x.data=y.data):UR R f (l ++ [x]) xs ys:=by
 unfold UR at h ⊢
 rw [h,<-map_app,uniF,if_pos hc,if_pos hd]
theorem UR.d {R:Option (List Itm)} {f:Nat} {l xs ys:List Itm} {x y:Itm} (h:UR R (f + 1) l (x :: xs) (y :: ys)) (hc:cmpD x.d y.d=0) (hd:x.data ≠ y.data):R=none:=by
 unfold UR at h
 rw [h,uniF,if_pos hc,if_neg hd]; rfl
theorem UR.fin {R:Option (List Itm)} {f:Nat} {l:List Itm} (h:UR R f l [] []):R=some l:=by
 unfold UR at h
 rw [h,uniF_nil]; simp
theorem Digs.ahead {W W':World} {a:Option Addr} {ds:List (Int × Int)} (h:Digs W.heap.size W a ds) (hb:Below W.heap.size W W'):Digs W'.heap.size W' a ds:=(h.below hb (Nat.le_refl _)).mono hb.size
theorem digs_one {W:World} {b:Nat} {x1 x2:Int} (hk:BK b #[.int .u64 x1,.int .u64 x2] 41 W):Digs W.heap.size W (some ⟨b,0,none⟩) [(x1,x2)]:=fun i hi=>by
 obtain rfl:i=0:=by simp at hi; omega
 exact ⟨_,0,rfl,hk.lt,by rw [Nat.zero_mul,hk.cell]; rfl,by rw [Nat.zero_mul,hk.cell]; rfl⟩
theorem Digs.drop {B:Nat} {W:World} {a:Option Addr} {ds:List (Int × Int)} (h:Digs B W a ds) (k:Nat):Digs B W (a.map (·.add (k * 2))) (ds.drop k):=by
 intro i hi
 have hi':k + i < ds.length:=by simp at hi; omega
 obtain ⟨b,off,rfl,hlt,h0,h1⟩:=h (k + i) hi'
 refine ⟨b,off + k * 2,by simp [Go.WideShapes.add_plain],hlt,?_⟩
 rw [List.getElem_drop]
 rw [show off + k * 2 + i * 2=off + (k + i) * 2 by omega]
 exact ⟨h0,h1⟩
theorem dslice_lo (a:Option Addr) (n c f m:Nat) (h:f<=n) (hc:n<=c) (hm:m=n - f):∃ (A1:Option Addr) (c1:Nat),(∀ B W (ds:List (Int × Int)),ds.length=n->Digs B W a ds->Digs B W A1 (ds.drop f))/\∀ W,(Instr.slice 24 (.slice a n c) (some (.int .i64 f)) none none).run Tryz.prog W = .ok (.slice A1 m c1) W:=by
 refine ⟨if c=f then a else a.map (·.add (f * 2)),c - f,fun B W ps hl hp=>?_,fun W=>?_⟩
 ·split
  ·rw [List.drop_of_length_le (by omega)]; exact Digs.nil _ _ _
  ·exact hp.drop f
 ·rw [run_slice_l (P:=Tryz.prog) W 24 a n c (by kernel_rfl) .i64 f (by omega) (by omega),size_dig]
  subst hm
  simp [sliced,Result.andThen]
def posD (l:List (Int × Int)) (d:Int × Int):Nat:=(l.takeWhile fun y=>decide (cmpD y d < 0)).length
def withS (l:List (Int × Int)) (d:Int × Int):List (Int × Int):=if l[posD l d]? = some d then l else l.take (posD l d) ++ (d :: l.drop (posD l d))
end Go.Proofs.YtijkieiihpiljaaGreat
