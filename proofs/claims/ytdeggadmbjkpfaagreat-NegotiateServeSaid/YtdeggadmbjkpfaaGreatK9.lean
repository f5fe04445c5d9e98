/- Joined texts: RpH, RpI, RpJ, RpK, RpL, RpM, RpN. -/
import Derived.Test.YtdeggadmbjkpfaaGreatK8
/- The reference's Put,Add,Keep,Union. -/
set_option maxRecDepth 100000
set_option maxHeartbeats 16000000
namespace Go.Proofs.YtdeggadmbjkpfaaGreat
open Go.RowKit Go.Shelf
set_option linter.unusedVariables false
theorem rput_any (a:Option Addr) (xs:List Itm) (c:Nat) (o:Ob) (ea:Option Addr) (ec:Nat) (pa:Option Addr) (pc:Nat) (w:World) (hp:PoolIn w a xs c) (ha:Asc xs) (ho:ObIn w o ea ec pa pc) (hok:OkO o) (hn100:(xs.length:Int) ≤ 100000) :
  Calls Tryz.prog 63 #[.slice a xs.length c,o.val ea ec pa pc] w (GotPut w a xs (putS xs o)):=by
 have HE:=Lib.hid (fun W (hW:Below w.heap.size w W)=>renc_any o ea ec pa pc W (ho.below hW) hok)
 have hel:=encodeS_len o
 obtain ⟨R,hR⟩:∃ R,R=putS xs o:=⟨_,rfl⟩
 rw [← hR]
 unfold putS at hR
 generalize encodeS o=r at HE hel hR
 obtain ⟨T,er⟩:=r
 simp only at HE hel hR
 have HOf:=Lib.hid (fun W=>refOf_any T W (by omega))
 generalize hdg:digS T=dg at HOf hR
 clear hdg
 obtain ⟨g1,g2⟩:=dg
 simp only at HOf
 have HI:=Lib.hid (fun W (hW:Below w.heap.size w W)=>rinsert_any a xs c ⟨(g1,g2),T⟩ W (hp.below hW).its ha hp.cap hn100)
 simp only [Itm.val] at HI
 generalize insS xs ⟨(g1,g2),T⟩=I at HI hR
 obtain ⟨ys,ei⟩:=I
 simp only at HI hR
 obtain ⟨kind,data,ents,⟨t1,t2⟩,pars,author,time,msg⟩:=o
 simp only [Ob.val] at HE ⊢
 have HP:=Lib.hid hp.its
 clear ho hp ha hn100
 obtain ⟨n,hnn⟩:∃ n,n=xs.length:=⟨_,rfl⟩
 have HN:=Lib.hid hnn
 rw [← hnn] at HI ⊢
 clear hnn
 generalize ents.length=ne at HE ⊢
 generalize pars.length=np at HE ⊢
 obtain ⟨u0,hu0⟩:∃ u0,u0=((w.alloc (.cells #[.int .i64 kind,.string ⟨data.toArray⟩,.slice ea ne ec,.int .u64 t1,.int .u64 t2,.slice pa np pc,.string ⟨author.toArray⟩,.int .i64 time,.string ⟨msg.toArray⟩] 76)).alloc (.cells #[.int .u64 0,.int .u64 0] 52)):=⟨_,rfl⟩
 have HB0:Hid (Below w.heap.size w u0):=Lib.hid (by rw [hu0]; exact ((Below.refl _ w).alloc (Nat.le_refl _) _).alloc (by simp) _)
 have HK0:Hid (BK (w.heap.size + 1) #[.int .u64 0,.int .u64 0] 52 u0):=Lib.hid (by rw [hu0]; exact BK.new2 _ _ _ _)
 have hz0:w.heap.size + 2 ≤ u0.heap.size:=by rw [hu0]; simp
 have HE0:Hid (Calls Tryz.prog 94 _ _ _):=Lib.hid (HE.out u0 HB0.out)
 rw [hu0] at HE0
 have HU0:=Lib.hid hu0
 clear HE
 by_cases he:er=0
 ·subst he
  rw [if_neg (by simp)] at hR
  have HR:=Lib.hid hR
  clear hR hu0
  go_enter Tryz.func63,Tryz.ntmps63
  go_wp2_with fail
  have hx:=HE0.out
  (with_reducible refine hx.mono ?_)
  clear hx HE0
  rintro e u1 ⟨rfl,hb⟩
  rw [← HU0.out] at hb
  have HB1:Hid (Below w.heap.size w u1):=Lib.hid (HB0.out.trans (hb.mono (by omega)))
  have HK1:=Lib.hid (HK0.out.below hb)
  have hz1:w.heap.size + 2 ≤ u1.heap.size:=by have:=hb.size; omega
  clear hb HU0 HB0 HK0 hz0
  go_wp2_with fail
  have hx:=HOf.out u1
  (with_reducible refine hx.mono ?_)
  clear hx HOf
  rintro e u2 ⟨rfl,hb⟩
  have HB2:Hid (Below w.heap.size w u2):=Lib.hid (HB1.out.trans (hb.mono (by omega)))
  have HK2:=Lib.hid (HK1.out.below hb)
  have hz2:w.heap.size + 2 ≤ u2.heap.size:=by have:=hb.size; omega
  clear hb HB1 HK1 hz1
  have HB3:Hid (Below w.heap.size w (u2.alloc (.cells #[.int .u64 g1,.int .u64 g2] 52))):=Lib.hid (HB2.out.alloc (by omega) _)
  have HK3:Hid (BK (w.heap.size + 1) #[.int .u64 0,.int .u64 0] 52 (u2.alloc (.cells #[.int .u64 g1,.int .u64 g2] 52))):=Lib.hid (HK2.out.alloc _)
  have HD3:Hid (BK u2.heap.size #[.int .u64 g1,.int .u64 g2] 52 (u2.alloc (.cells #[.int .u64 g1,.int .u64 g2] 52))):=Lib.hid (BK.new _ _ _)
  go_wp2_with fail
  have hx:=HI.out _ HB3.out
  (with_reducible refine hx.mono ?_)
  clear hx HI
  rintro e u4 ⟨ra,rc,rfl,hpo⟩
  have HPO:=Lib.hid hpo
  have hb:=hpo.2.2.2
  have HK4:=Lib.hid (HK3.out.below hb)
  have HD4:=Lib.hid (HD3.out.below hb)
  have HB4:Hid (Below w.heap.size w u4):=Lib.hid (HB3.out.trans (hb.mono (by simp; omega)))
  have c0:u4.cell? ⟨w.heap.size + 1,0,none⟩=some (.int .u64 0):=by rw [HK4.out.cell]; rfl
  have c1:u4.cell? ⟨w.heap.size + 1,1,none⟩=some (.int .u64 0):=by rw [HK4.out.cell]; rfl
  have f0:u4.frozen? ⟨w.heap.size + 1,0,none⟩=false:=HK4.out.frozen 0
  have f1:u4.frozen? ⟨w.heap.size + 1,1,none⟩=false:=HK4.out.frozen 1
  have k0:u4.cell? ⟨u2.heap.size,0,none⟩=some (.int .u64 g1):=by rw [HD4.out.cell]; rfl
  have k1:u4.cell? ⟨u2.heap.size,1,none⟩=some (.int .u64 g2):=by rw [HD4.out.cell]; rfl
  have hne:u2.heap.size ≠ w.heap.size + 1:=by omega
  clear hpo hb HB3 HK3 HD3 HK4 HD4
  by_cases hi:ei=0
  ·subst hi
   have HR2:Hid (R=(ys,(g1,g2),0)):=Lib.hid (by rw [HR.out,if_neg (by simp)])
   have HFN:Hid (∀ W,(∀ B,Its B u4 ra ys → Its B W ra ys) → W.heap.size=u4.heap.size → Below w.heap.size w W → GotPut w a xs R (.returned (.tuple #[.slice ra ys.length rc,.agg #[.int .u64 g1,.int .u64 g2],.int .i64 0])) W):=Lib.hid (fun W h1 h2 h3=>by
    rw [HR2.out]
    refine ⟨ra,rc,rfl,by rw [h2]; exact h1 _ HPO.out.1,HPO.out.2.1,?_,h3⟩
    rcases HPO.out.2.2.1 with h | h
    ·exact .inl h
    ·exact .inr (fun ad had=>by have:=h ad had; simp at this; omega))
   have HAW:Hid (∀ ad,ra=some ad → 0 < ys.length → ad.block ≠ w.heap.size + 1):=Lib.hid (fun ad had hpos=>by
    rcases HPO.out.2.2.1 with h | h
    ·have h0:0 < xs.length:=by rw [← h.2]; exact hpos
     obtain ⟨b,off,hb,hlt,_⟩:=HP.out 0 h0
     rw [← h.1,had] at hb
     cases hb
     simp only
     omega
    ·have:=h ad had; simp at this; omega)
   clear HR
   go_wp2_with fail
   go_region
   all_goals go_wp2_with fail
   refine bodyPost_ret (v:=.tuple #[.slice ra ys.length rc,.agg #[.int .u64 g1,.int .u64 g2],.int .i64 0]) (by simp [results,Tryz.results63,go_sem,c0,c1]) rfl ?_
   exact HFN.out _ (fun B h=>(h.set HAW.out _ _).set HAW.out _ _) (by simp) ((HB4.out.setCell (by simp) _).setCell (by simp) _).drew
  ·have HR2:Hid (R=([],(0,0),ei)):=Lib.hid (by rw [HR.out,if_pos hi])
   have hne2:(ei != 0)=true:=by simpa using hi
   clear HR hi
   go_wp2_with fail
   refine bodyPost_ret (v:=.tuple #[.slice none 0 0,.agg #[.int .u64 0,.int .u64 0],.int .i64 ei]) (by simp [results,Tryz.results63,go_sem,c0,c1]) rfl ?_
   rw [HR2.out]
   exact ⟨none,0,rfl,PoolAt.none _ _ ((HB4.out.setCell (by simp) _).setCell (by simp) _)⟩
 ·rw [if_pos he] at hR
  have HR:=Lib.hid hR
  have hne:(er != 0)=true:=by simpa using he
  clear hR he HOf HI hu0
  go_enter Tryz.func63,Tryz.ntmps63
  go_wp2_with fail
  have hx:=HE0.out
  (with_reducible refine hx.mono ?_)
  clear hx HE0
  rintro e u1 ⟨rfl,hb⟩
  rw [← HU0.out] at hb
  have HB1:Hid (Below w.heap.size w u1):=Lib.hid (HB0.out.trans (hb.mono (by omega)))
  have HK1:=Lib.hid (HK0.out.below hb)
  have c0:u1.cell? ⟨w.heap.size + 1,0,none⟩=some (.int .u64 0):=by rw [HK1.out.cell]; rfl
  have c1:u1.cell? ⟨w.heap.size + 1,1,none⟩=some (.int .u64 0):=by rw [HK1.out.cell]; rfl
  have f0:u1.frozen? ⟨w.heap.size + 1,0,none⟩=false:=HK1.out.frozen 0
  have f1:u1.frozen? ⟨w.heap.size + 1,1,none⟩=false:=HK1.out.frozen 1
  clear hb HU0
  go_wp2_with fail
  refine bodyPost_ret (v:=.tuple #[.slice none 0 0,.agg #[.int .u64 0,.int .u64 0],.int .i64 er]) (by simp [results,Tryz.results63,go_sem,c0,c1]) rfl ?_
  rw [HR.out]
  exact ⟨none,0,rfl,PoolAt.none _ _ ((HB1.out.setCell (by simp) _).setCell (by simp) _)⟩
theorem keepS_take (xs:List Itm) (l:List (Int × Int)) (k:Nat) (h:k < xs.length):keepS (xs.take (k + 1)) l=keepS (xs.take k) l ++ (if decide (xs[k].d ∈ l)=true then [xs[k]] else []):=by
 unfold keepS
 rw [List.take_succ_eq_append_getElem h,List.filter_append]
 congr 1
 by_cases hd:xs[k].d ∈ l
 ·simp [hd]
 ·simp [hd]
theorem rkeep_any (a:Option Addr) (xs:List Itm) (c:Nat) (la:Option Addr) (l:List (Int × Int)) (lc:Nat) (w:World) (hx:Its w.heap.size w a xs) (hl:Digs w.heap.size w la l) (hn:(xs.length:Int) ≤ 10000000) (hll:(l.length:Int) ≤ 1000000000) :
  Calls Tryz.prog 32 #[.slice a xs.length c,.slice la l.length lc] w (GotP w none (keepS xs l)):=by
 have HI:=Lib.hid (fun x y W (hW:Below w.heap.size w W)=>rin_any la l lc x y W (hl.ahead hW) (by omega))
 obtain ⟨n,hnn⟩:∃ n,n=xs.length:=⟨_,rfl⟩
 have HN:=Lib.hid hnn
 have HX:=Lib.hid hx
 rw [← hnn] at hn ⊢
 generalize l.length=ll at HI ⊢
 clear hnn hx hl hll
 go_enter Tryz.func32,Tryz.ntmps32
 go_wp2_with fail
 go_loopw [5,6] (fun v iv wr=>∃ (k:Nat) (u:Value) (zs:List Itm),k ≤ n ∧ iv = .int .i64 k ∧ v=u ∧ zs.length ≤ k ∧ Hid (zs=keepS (xs.take k) l) ∧ Hid (wr.ownsRow w.heap.size 84 3 u zs.length (icells zs)) ∧ Hid (Below w.heap.size w wr)) (fun _ iv _=>n - (intOf iv).toNat)
 case atStart=>exact ⟨0,_,[],by omega,rfl,rfl,by simp,Lib.hid rfl,Lib.hid (World.ownsRow_nil _ _ _ _),Lib.hid (Below.refl _ _)⟩
 case round=>
  obtain ⟨k,v,zs,hk,rfl,rfl,hzl,HZ,HO,HB⟩:=hrel
  by_cases hlt:k < n
  ·have h1:k < xs.length:=by rw [← HN.out]; exact hlt
   obtain ⟨b0,o0,rfl,hb0,q0,q1,q2⟩:=(HX.out.ahead HB.out) k h1
   have HTK:=Lib.hid (keepS_take xs l k h1)
   generalize hit:xs[k]=it at q0 q1 q2 HTK
   have HIT:=Lib.hid hit
   clear hit
   obtain ⟨⟨x1,x2⟩,dt⟩:=it
   simp only at q0 q1 q2 HTK
   have hkn:(k:Int) < (n:Int):=by omega
   have HI1:=Lib.hid (HI.out x1 x2 wr HB.out)
   cases hm:decide ((x1,x2) ∈ l) with
   | false=>
    rw [hm] at HI1 HTK
    have HZ2:Hid (zs=keepS (xs.take (k + 1)) l):=Lib.hid (by rw [HZ.out,HTK.out]; simp)
    clear HTK hm
    go_wp2_with fail
    (with_reducible refine (HI1.out).mono ?_)
    rintro e u2 ⟨rfl,hb⟩
    have HB2:=Lib.hid (HB.out.trans (hb.mono HB.out.size))
    have HO2:=Lib.hid (own_below HO.out hb)
    clear hb HI1
    go_wp2_with fail
    go_roundw
    case rel=>exact ⟨k + 1,_,zs,by omega,by go_num,rfl,by omega,HZ2,HO2,HB2⟩
    case measure=>simp [intOf] <;> omega
   | true=>
    rw [hm] at HI1 HTK
    have HZ2:Hid (zs ++ [(⟨(x1,x2),dt⟩:Itm)]=keepS (xs.take (k + 1)) l):=Lib.hid (by rw [HZ.out,HTK.out]; simp)
    clear HTK hm
    go_wp2_with fail
    (with_reducible refine (HI1.out).mono ?_)
    rintro e u2 ⟨rfl,hb⟩
    have HB2:=Lib.hid (HB.out.trans (hb.mono HB.out.size))
    have HO2:=Lib.hid (own_below HO.out hb)
    clear hb HI1 q0 q1 q2
    obtain ⟨_,_,hpe,_,q0,q1,q2⟩:=(HX.out.ahead HB2.out) k h1
    cases hpe
    rw [HIT.out] at q0 q1 q2
    simp only at q0 q1 q2
    obtain ⟨v',z,hrun,hown,hgr⟩:=append_itm HO2.out (x1,x2) dt (by omega) HB2.out.size
    have HBZ:Hid (Below w.heap.size w z):=Lib.hid (below_own (HB2.out.alloc HB2.out.size _) (HO2.out.alloc _) hgr (Nat.le_refl _))
    have HK2:Hid ((zs ++ [(⟨(x1,x2),dt⟩:Itm)]).length=zs.length + 1):=Lib.hid (by rw [List.length_append]; rfl)
    have hl2:(zs ++ [(⟨(x1,x2),dt⟩:Itm)]).length ≤ k + 1:=by rw [HK2.out]; omega
    have HOZ:=Lib.hid hown
    have HRUN:=Lib.hid hrun
    clear hrun hown hgr HK2 HO2 HB2
    go_wp2_with (at_builtin; refine Lib.wpList_append_run _ rfl _ _ _ _ rfl _ _ rfl rfl _ _ HRUN.out ?_)
    go_roundw
    case rel=>exact ⟨k + 1,v',_,by omega,by go_num,rfl,hl2,HZ2,HOZ,HBZ⟩
    case measure=>simp [intOf] <;> omega
  ·have HF:Hid (zs=keepS xs l):=Lib.hid (by rw [HZ.out,List.take_of_length_le (by rw [← HN.out]; omega)])
   obtain ⟨av,cv,rfl,hcap⟩:=ownsRow_sliceN HO.out
   go_wp2_with fail
   go_ret
   rw [← HF.out]
   exact ⟨av,cv,rfl,ownsRow_its HO.out,hcap,.inr (own_new HO.out),HB.out⟩
def runS:List Itm → List Itm → List Itm × Int
 | zs,[]=>(zs,0)
 | zs,y :: ys=>if (insS zs y).2 ≠ 0 then ([],(insS zs y).2) else runS (insS zs y).1 ys
theorem runion_any (a b:Option Addr) (xs ys:List Itm) (c c':Nat) (w:World) (hp:Its w.heap.size w a xs) (hq:Its w.heap.size w b ys) (hc:xs.length ≤ c) (hA:Asc xs) (hn:(xs.length:Int) ≤ 40000) (hm:(ys.length:Int) ≤ 40000) :
  Calls Tryz.prog 31 #[.slice a xs.length c,.slice b ys.length c'] w fun e w'=>∃ ra rc,e = .returned (.tuple #[.slice ra (runS xs ys).1.length rc,.int .i64 (runS xs ys).2]) ∧ Its w'.heap.size w' ra (runS xs ys).1 ∧ Below w.heap.size w w':=by
 obtain ⟨R,hR⟩:∃ R,R=runS xs ys:=⟨_,rfl⟩
 rw [← hR]
 have HR:Hid (R=runS xs (ys.drop 0)):=Lib.hid hR
 have HY:=Lib.hid hq
 have HX:=Lib.hid hp
 have HAX:=Lib.hid hA
 obtain ⟨m,hmm⟩:∃ m,m=ys.length:=⟨_,rfl⟩
 rw [← hmm] at hm ⊢
 have HM:=Lib.hid hmm
 clear hp hq hR hmm hA
 have HI:=Lib.hid (fun (oa:Option Addr) (zs:List Itm) (oc:Nat) (x1 x2:Int) (dt:List UInt8) (W:World) (h1:Its W.heap.size W oa zs) (h2:Asc zs) (h3:zs.length ≤ oc) (h4:(zs.length:Int) ≤ 100000)=>(show Calls Tryz.prog 58 #[.slice oa zs.length oc,.agg #[.int .u64 x1,.int .u64 x2,.string ⟨dt.toArray⟩]] W (GotPE W oa zs (insS zs ⟨(x1,x2),dt⟩)) from rinsert_any oa zs oc ⟨(x1,x2),dt⟩ W h1 h2 h3 h4))
 obtain ⟨n,hnn⟩:∃ n,n=xs.length:=⟨_,rfl⟩
 rw [← hnn] at hn hc ⊢
 have HN:=Lib.hid hnn
 clear hnn
 go_enter Tryz.func31,Tryz.ntmps31
 go_wp2_with fail
 go_loopw [6,7] (fun v jv wr=>∃ (j zl:Nat) (zs:List Itm) (oa:Option Addr) (oc:Nat),j ≤ m ∧ jv = .int .i64 j ∧ v = .slice oa zl oc ∧ zl ≤ n + j ∧ Hid (zl=zs.length) ∧ Hid (Its wr.heap.size wr oa zs) ∧ Hid (Asc zs) ∧ zl ≤ oc ∧ Hid (R=runS zs (ys.drop j)) ∧ Hid (Below w.heap.size w wr)) (fun _ jv _=>m - (intOf jv).toNat)
 case atStart=>exact ⟨0,n,xs,a,c,by omega,rfl,rfl,by omega,HN,HX,HAX,hc,HR,Lib.hid (Below.refl _ _)⟩
 case round=>
  clear HR HX HAX
  obtain ⟨j,zl,zs,oa,oc,hj,rfl,rfl,hzl,HZL,HX,HAZ,hoc,HR,HB⟩:=hrel
  by_cases hlt:j < m
  ·have h1:j < ys.length:=by rw [← HM.out]; exact hlt
   obtain ⟨b0,o0,rfl,hb0,q0,q1,q2⟩:=(HY.out.ahead HB.out) j h1
   have hd:ys.drop j=ys[j] :: ys.drop (j + 1):=List.drop_eq_getElem_cons h1
   rw [hd] at HR
   clear hd
   generalize ys[j]=it at q0 q1 q2 HR
   obtain ⟨⟨x1,x2⟩,dt⟩:=it
   simp only at q0 q1 q2
   have hjm:(j:Int) < (m:Int):=by omega
   have HI1:=Lib.hid (HI.out oa zs oc x1 x2 dt wr HX.out HAZ.out (by rw [← HZL.out]; exact hoc) (by rw [← HZL.out]; omega))
   rw [← HZL.out] at HI1
   have HLW:Hid ((insS zs ⟨(x1,x2),dt⟩).2=0 → Asc (insS zs ⟨(x1,x2),dt⟩).1 ∧ (insS zs ⟨(x1,x2),dt⟩).1.length ≤ zs.length + 1):=Lib.hid (fun h=>by
    have h2:=ins_law HAZ.out (show insS zs ⟨(x1,x2),dt⟩=((insS zs ⟨(x1,x2),dt⟩).1,0) by rw [← h])
    exact ⟨h2.1,h2.2.2⟩)
   have HR1:Hid (R=if (insS zs ⟨(x1,x2),dt⟩).2 ≠ 0 then ([],(insS zs ⟨(x1,x2),dt⟩).2) else runS (insS zs ⟨(x1,x2),dt⟩).1 (ys.drop (j + 1))):=Lib.hid (by rw [HR.out]; rfl)
   generalize insS zs ⟨(x1,x2),dt⟩=I at HI1 HLW HR1
   obtain ⟨zs2,ei⟩:=I
   simp only at HI1 HLW HR1
   clear HR
   by_cases hi:ei=0
   ·subst hi
    have HLW2:=Lib.hid (HLW.out rfl)
    have HR2:Hid (R=runS zs2 (ys.drop (j + 1))):=Lib.hid (by rw [HR1.out,if_neg (by simp)])
    clear HLW HR1
    go_wp2_with fail
    (with_reducible refine (HI1.out).mono ?_)
    rintro e u2 ⟨ra,rc,rfl,hpo⟩
    have HIT:=Lib.hid hpo.1
    have HB2:=Lib.hid (HB.out.trans (hpo.2.2.2.mono HB.out.size))
    have hcap:=hpo.2.1
    clear hpo HI1
    obtain ⟨z2,hz2⟩:∃ z2,z2=zs2.length:=⟨_,rfl⟩
    rw [← hz2] at hcap ⊢
    have hzz:z2 ≤ n + (j + 1):=by have:=HLW2.out.2; have:=HZL.out; omega
    have HZ2:=Lib.hid hz2
    clear hz2
    go_wp2_with fail
    go_roundw
    case rel=>exact ⟨j + 1,z2,zs2,ra,rc,by omega,by go_num,rfl,hzz,HZ2,HIT,Lib.hid HLW2.out.1,hcap,HR2,HB2⟩
    case measure=>simp [intOf] <;> omega
   ·have hne:(ei != 0)=true:=by simpa using hi
    have HR2:Hid (R=([],ei)):=Lib.hid (by rw [HR1.out,if_pos hi])
    clear HLW HR1 hi
    go_wp2_with fail
    (with_reducible refine (HI1.out).mono ?_)
    rintro e u2 ⟨ra,rc,rfl,hpo⟩
    have HB2:=Lib.hid (HB.out.trans (hpo.2.2.2.mono HB.out.size))
    clear hpo HI1
    generalize zs2.length=z2
    go_wp2_with fail
    go_ret2
    rw [HR2.out]
    exact ⟨none,0,rfl,Its.nil _ _ _,HB2.out⟩
  ·have HF:Hid (R=(zs,0)):=Lib.hid (by rw [HR.out,List.drop_of_length_le (by rw [← HM.out]; omega)]; rfl)
   go_wp2_with fail
   go_ret2
   rw [HF.out]
   exact ⟨oa,oc,by rw [HZL.out]; rfl,HX.out,HB.out⟩
end Go.Proofs.YtdeggadmbjkpfaaGreat
/- The reference's Same of objects. -/
namespace Go.Proofs.YtdeggadmbjkpfaaGreat
open Go.RowKit Go.Shelf
set_option linter.unusedVariables false
end Go.Proofs.YtdeggadmbjkpfaaGreat
/- slices.Index and slices.Contains at items. -/
namespace Go.Proofs.YtdeggadmbjkpfaaGreat
open Go.RowKit Go.Shelf
set_option linter.unusedVariables false
def IxR (xs:List Itm) (x:Itm) (n:Int):Prop:=(0 ≤ n ∧ x ∈ xs) ∨ (n = -1 ∧ x ∉ xs)
def GotIx (w:World) (xs:List Itm) (x:Itm) (e:Ending) (w':World):Prop:=∃ n:Int,e = .returned (.int .i64 n) ∧ IxR xs x n ∧ Below w.heap.size w w'
end Go.Proofs.YtdeggadmbjkpfaaGreat
/- The union of pools: the plain law. -/
namespace Go.Proofs.YtdeggadmbjkpfaaGreat
open Go.RowKit Go.Shelf
set_option linter.unusedVariables false
theorem asc_same {xs:List Itm} (h:Asc xs) {x y:Itm} (hx:x ∈ xs) (hy:y ∈ xs) (hd:x.d=y.d):x=y:=by
 obtain ⟨i,hi,rfl⟩:=List.getElem_of_mem hx
 obtain ⟨j,hj,rfl⟩:=List.getElem_of_mem hy
 rcases Nat.lt_trichotomy i j with h1 | h1 | h1
 ·have:=h i j hi hj h1; rw [hd,cmpD_self] at this; omega
 ·subst h1; rfl
 ·have:=h j i hj hi h1; rw [hd,cmpD_self] at this; omega
def Clash (xs ys:List Itm):Prop:=∃ z y,(z ∈ xs ∨ z ∈ ys) ∧ (y ∈ xs ∨ y ∈ ys) ∧ z.d=y.d ∧ z ≠ y
theorem Clash.symm {xs ys:List Itm} (h:Clash xs ys):Clash ys xs:=by
 obtain ⟨z,y,h1,h2,h3⟩:=h
 exact ⟨z,y,h1.symm,h2.symm,h3⟩
structure UniOk (xs ys zs:List Itm):Prop where
 asc:Asc zs
 mem:∀ z,z ∈ zs ↔ z ∈ xs ∨ z ∈ ys
theorem UniOk.no {xs ys zs:List Itm} (h:UniOk xs ys zs) (hc:Clash xs ys):False:=by
 obtain ⟨z,y,h1,h2,h3,h4⟩:=hc
 exact h4 (asc_same h.asc ((h.mem z).2 h1) ((h.mem y).2 h2) h3)
theorem runS_law:∀ {ys xs:List Itm},Asc xs → (runS xs ys=([],16) ∧ Clash xs ys) ∨ ∃ zs,runS xs ys=(zs,0) ∧ UniOk xs ys zs
 | [],xs,hx=>.inr ⟨xs,rfl,hx,by simp⟩
 | y :: ys,xs,hx=>by
  rw [runS]
  by_cases he:(insS xs y).2=0
  ·rw [if_neg (by simpa using he)]
   obtain ⟨h1,h2,_⟩:=ins_law hx (show insS xs y=((insS xs y).1,0) by rw [← he])
   rcases runS_law (ys:=ys) h1 with ⟨h3,h4⟩ | ⟨zs,h3,h4⟩
   ·left
    refine ⟨h3,?_⟩
    obtain ⟨a,b,ha,hb,hc⟩:=h4
    refine ⟨a,b,?_,?_,hc⟩
    ·rcases ha with h | h
     ·rcases (h2 a).1 h with h | rfl
      ·exact .inl h
      ·simp
     ·simp [h]
    ·rcases hb with h | h
     ·rcases (h2 b).1 h with h | rfl
      ·exact .inl h
      ·simp
     ·simp [h]
   ·right
    refine ⟨zs,h3,h4.asc,fun z=>?_⟩
    rw [h4.mem,h2,List.mem_cons,or_assoc]
  ·rw [if_pos he]
   left
   have hat:=asc_at hx y.d
   cases hh:hitB xs y.d (posI xs y.d) with
   | false=>rw [insS_miss hat hh] at he; exact absurd rfl he
   | true=>
    obtain ⟨hk,hkd,hi⟩:=insS_hit hat hh
    rw [hi] at he ⊢
    by_cases hdt:xs[posI xs y.d].data=y.data
    ·rw [if_pos hdt] at he; exact absurd rfl he
    ·rw [if_neg hdt]
     exact ⟨rfl,xs[posI xs y.d],y,.inl (List.getElem_mem hk),by simp,hkd,fun h=>hdt (by rw [h])⟩
def restS (xs:List Itm) (l:List (Int × Int)):List (Int × Int):=(xs.filter fun x=>!decide (x.d ∈ l)).map (·.d)
end Go.Proofs.YtdeggadmbjkpfaaGreat
/- cordwoodref07.Links. -/
namespace Go.Proofs.YtdeggadmbjkpfaaGreat
open Go.RowKit Go.Shelf
set_option linter.unusedVariables false
theorem links_form {o:Ob} (h:(encodeS o).2=0):linksS o=((o.ents.map (·.d)) ++ (if o.kind=3 then [o.tree] else [])) ++ o.pars:=by
 unfold linksS
 rw [if_neg (by simpa using h)]
 by_cases h3:o.kind=3
 ·simp [h3]
 ·have hc:=(encodeS_parts (encodeS_err h)).1
  have hk:=checkS_kind hc
  have hp:o.pars=[]:=by
   by_cases h1:o.kind=1 ∨ o.kind=4
   ·rw [checkS_one hc h1]; rfl
   ·rw [(checkS_two hc (by omega)).1]; rfl
  simp [h3,hp]
theorem own_empty (W:World) (base:Nat) (e:TypeId) (z:Nat) (h:base ≤ W.heap.size):(W.alloc (.cells #[] e)).ownsRow base e z (.slice (some ⟨W.heap.size,0,none⟩) 0 0) 0 []:=by
 refine ⟨by simp,.inr ⟨W.heap.size,0,#[],rfl,h,BK.new W #[] e,Nat.le_refl _,by unfold maxLen; omega,by simp,by simp⟩⟩
theorem rlinks_any (o:Ob) (ea:Option Addr) (ec:Nat) (pa:Option Addr) (pc:Nat) (w:World) (h:ObIn w o ea ec pa pc) (hb:ObB o) (hok:OkO o) :
  Calls Tryz.prog 57 #[o.val ea ec pa pc] w (GotDs w (linksS o)):=by
 have HC:=Lib.hid (fun W (hW:Below w.heap.size w W)=>rcheck_any o ea ec pa pc W (h.below hW) hok)
 obtain ⟨R,hR⟩:∃ R,R=linksS o:=⟨_,rfl⟩
 have HF0:=Lib.hid (fun h=>hR.trans (links_form (o:=o) h))
 have HF1:Hid ((encodeS o).2 ≠ 0 → R=[]):=Lib.hid (fun he=>by rw [hR]; unfold linksS; rw [if_pos he])
 rw [← hR]
 clear hR hok
 generalize (encodeS o).2=er at HC HF0 HF1
 have hel:=hb.elen
 have hpl:=hb.plen
 have HEN:=Lib.hid h.ents
 have HPA:=Lib.hid h.pars
 clear h hb
 obtain ⟨kind,data,ents,⟨t1,t2⟩,pars,author,time,msg⟩:=o
 simp only [Ob.val] at HC HF0 hel hpl HEN HPA ⊢
 obtain ⟨ne,hne⟩:∃ ne,ne=ents.length:=⟨_,rfl⟩
 obtain ⟨n,hnp⟩:∃ n,n=pars.length:=⟨_,rfl⟩
 rw [← hne] at HC hel ⊢
 rw [← hnp] at HC hpl ⊢
 have HNE:=Lib.hid hne
 have HNP:=Lib.hid hnp
 clear hne hnp
 obtain ⟨u,hu⟩:∃ u,u=w.alloc (.cells #[.int .i64 kind,.string ⟨data.toArray⟩,.slice ea ne ec,.int .u64 t1,.int .u64 t2,.slice pa n pc,.string ⟨author.toArray⟩,.int .i64 time,.string ⟨msg.toArray⟩] 76):=⟨_,rfl⟩
 have HKU:Hid (BK w.heap.size #[.int .i64 kind,.string ⟨data.toArray⟩,.slice ea ne ec,.int .u64 t1,.int .u64 t2,.slice pa n pc,.string ⟨author.toArray⟩,.int .i64 time,.string ⟨msg.toArray⟩] 76 u):=Lib.hid (by rw [hu]; exact BK.new _ _ _)
 have HBU:Hid (Below w.heap.size w u):=Lib.hid (by rw [hu]; exact (Below.refl _ w).alloc (Nat.le_refl _) _)
 have hzu:u.heap.size=w.heap.size + 1:=by rw [hu]; simp
 have HU:=Lib.hid hu
 clear hu
 obtain ⟨u0,hu0⟩:∃ u0,u0=u.alloc (.cells #[] 52):=⟨_,rfl⟩
 have HK0:Hid (BK w.heap.size #[.int .i64 kind,.string ⟨data.toArray⟩,.slice ea ne ec,.int .u64 t1,.int .u64 t2,.slice pa n pc,.string ⟨author.toArray⟩,.int .i64 time,.string ⟨msg.toArray⟩] 76 u0):=Lib.hid (by rw [hu0]; exact HKU.out.alloc _)
 have HB0:Hid (Below w.heap.size w u0):=Lib.hid (by rw [hu0]; exact HBU.out.alloc (by omega) _)
 have HO0:Hid (u0.ownsRow (w.heap.size + 1) 52 2 (.slice (some ⟨w.heap.size + 1,0,none⟩) 0 0) 0 []):=Lib.hid (by rw [hu0,← hzu]; exact own_empty _ _ _ _ (Nat.le_refl _))
 have HC0:=Lib.hid (HC.out u0 HB0.out)
 rw [hu0] at HC0
 rw [HU.out] at HC0
 have HU0:=Lib.hid hu0
 have hz0:u0.heap.size=w.heap.size + 2:=by rw [hu0]; simp; omega
 clear hu0
 by_cases he:er=0
 ·subst he
  have HR:=Lib.hid (HF0.out rfl)
  clear HF0 HF1 HC
  go_enter Tryz.func57,Tryz.ntmps57
  go_wp2_with fail
  (with_reducible refine (HC0.out).mono ?_)
  rintro e u2 ⟨rfl,hb⟩
  rw [← HU.out] at hb
  rw [← HU0.out] at hb
  have HK2:=Lib.hid (HK0.out.below hb)
  have HB2:=Lib.hid (HB0.out.trans (hb.mono HB0.out.size))
  have HO2:=Lib.hid (own_below HO0.out hb)
  have hz2:w.heap.size + 1 ≤ u2.heap.size:=by have:=hb.size; omega
  clear hb HC0 HU HU0 HK0 HB0 HO0 hz0 hzu HKU HBU u0 u
  go_wp2_with fail
  go_loopw [3,4] (fun v i wr=>∃ k:Nat,k ≤ ne ∧ i = .int .i64 k ∧ w.heap.size + 1 ≤ wr.heap.size ∧ Hid (wr.ownsRow (w.heap.size + 1) 52 2 v ((ents.take k).map (·.d)).length (dcells ((ents.take k).map (·.d)))) ∧ Hid (Below w.heap.size w wr) ∧ Hid (BK w.heap.size #[.int .i64 kind,.string ⟨data.toArray⟩,.slice ea ne ec,.int .u64 t1,.int .u64 t2,.slice pa n pc,.string ⟨author.toArray⟩,.int .i64 time,.string ⟨msg.toArray⟩] 76 wr)) (fun _ i _=>ne - (intOf i).toNat)
  case atStart=>exact ⟨0,by omega,rfl,hz2,HO2,HB2,HK2⟩
  case round=>
   clear HK2 HB2 HO2 hz2
   obtain ⟨k,hk,rfl,hws,HO,HB,HK⟩:=hrel
   have hlk:((ents.take k).map (·.d)).length=k:=by rw [List.length_map,List.length_take]; have:=HNE.out; omega
   obtain ⟨av,cv,rfl,hcap⟩:=ownsRow_sliceN HO.out
   obtain ⟨e0,e1,e2,e3,e4,e5,e6,e7,e8⟩:=BK.c9 (show BK _ #[.int .i64 kind,.string ⟨data.toArray⟩,.slice ea ne ec,.int .u64 t1,.int .u64 t2,.slice pa n pc,.string ⟨author.toArray⟩,.int .i64 time,.string ⟨msg.toArray⟩] _ _ from HK.out)
   by_cases hlt:k < ne
   ·have h1:k < ents.length:=by have:=HNE.out; omega
    obtain ⟨b0,o0,rfl,hb0,q0,q1,q2,q3⟩:=(HEN.out.below HB.out (Nat.le_refl _)) k h1
    have HMS:=Lib.hid (map_take_succ ents k h1)
    generalize ents[k]=en at q0 q1 q2 q3 HMS
    obtain ⟨nm,dir,d1,d2⟩:=en
    simp only at q0 q1 q2 q3 HMS
    obtain ⟨v',W',hrun,hown',hg',hat'⟩:=append_one HO.out d1 d2 (by omega) (by omega)
    have hne:(Value.slice av ((ents.take k).map (·.d)).length cv).ownBlock ≠ some w.heap.size:=fun hh=>by have:=(HO.out.lt _ hh).1; omega
    have HO2:Hid (W'.ownsRow (w.heap.size + 1) 52 2 v' ((ents.take (k + 1)).map (·.d)).length (dcells ((ents.take (k + 1)).map (·.d)))):=Lib.hid (by rw [HMS.out]; exact hown')
    have HB2:Hid (Below w.heap.size w W'):=Lib.hid ((HB.out.alloc (by omega) _).grown hg' (by simp; omega) (fun j hj=>by have:=(HO.out.lt _ hj).1; omega))
    have HK2:=Lib.hid ((HK.out.alloc _).grow hg' (fun j hj e=>hne (by rw [hj,e])))
    have hws2:w.heap.size + 1 ≤ W'.heap.size:=by have:=hg'.size; simp at this; omega
    have HRUN:=Lib.hid hrun
    clear hrun hown' hg' hat' hlk hne
    generalize ((ents.take k).map (·.d)).length=m at HRUN hcap ⊢
    go_wp2_with (at_builtin; refine Lib.wpList_append_run _ rfl _ _ _ _ rfl _ _ rfl rfl _ _ HRUN.out ?_)
    go_roundw
    case rel=>exact ⟨k + 1,by omega,by go_num,hws2,HO2,HB2,HK2⟩
    case measure=>simp [intOf] <;> omega
   ·have hfull:ents.take k=ents:=List.take_of_length_le (by have:=HNE.out; omega)
    rw [hfull] at HO hcap hlk ⊢
    clear hfull
    by_cases h3:kind=3
    ·subst h3
     rw [if_pos rfl] at HR
     obtain ⟨v1,W1,hrun1,hown1,hg1,_⟩:=append_one HO.out t1 t2 (by omega) (by omega)
     have hne:(Value.slice av (ents.map (·.d)).length cv).ownBlock ≠ some w.heap.size:=fun hh=>by have:=(HO.out.lt _ hh).1; omega
     have HB1:Hid (Below w.heap.size w W1):=Lib.hid ((HB.out.alloc (by omega) _).grown hg1 (by simp; omega) (fun j hj=>by have:=(HO.out.lt _ hj).1; omega))
     have c5:W1.cell? ⟨w.heap.size,5,none⟩=some (.slice pa n pc):=by
      have HK1:=(HK.out.alloc _).grow hg1 (fun j hj e=>hne (by rw [hj,e]))
      rw [HK1.cell]; rfl
     obtain ⟨v2,W2,hrun2,hown2,hg2,_⟩:=append_digs W1 (w.heap.size + 1) 24 v1 _ hown1 pa pars pc ((HPA.out.below HB1.out (Nat.le_refl _)).mono HB1.out.size) (by simp; have:=HNP.out; have:=HNE.out; simp at hlk; omega) (by have:=hg1.size; simp at this; omega)
     have HB2:Hid (Below w.heap.size w W2):=Lib.hid (HB1.out.grown hg2 HB1.out.size (fun j hj=>by have:=(hown1.lt _ hj).1; omega))
     rw [← HNP.out] at hrun2
     have HRUN1:=Lib.hid hrun1
     have HRUN2:=Lib.hid hrun2
     have HO2:=Lib.hid hown2
     clear hrun1 hrun2 hown1 hown2 hg1 hg2 HB1 hlk hne
     generalize (ents.map (·.d)).length=m at HRUN1 hcap ⊢
     have tok1:True:=trivial
     go_wp2_with (at_builtin; first | (have _t:=tok1; refine Lib.wpList_append_run _ rfl _ _ _ _ rfl _ _ rfl rfl _ _ HRUN1.out ?_; clear _t tok1) | (refine Lib.wpList_append_run _ rfl _ _ _ _ rfl _ _ rfl rfl _ _ HRUN2.out ?_))
     obtain ⟨a2,cap2,rfl,_⟩:=ownsRow_sliceN HO2.out
     go_ret
     rw [HR.out]
     exact ⟨a2,cap2,rfl,own_le HO2.out (by omega),HB2.out⟩
    ·rw [if_neg h3,List.append_nil] at HR
     have e3:(kind == 3)=false:=by simpa using h3
     obtain ⟨v2,W2,hrun2,hown2,hg2,_⟩:=append_digs wr (w.heap.size + 1) 24 _ _ HO.out pa pars pc ((HPA.out.below HB.out (Nat.le_refl _)).mono HB.out.size) (by simp; have:=HNP.out; have:=HNE.out; simp at hlk; omega) hws
     have HB2:Hid (Below w.heap.size w W2):=Lib.hid (HB.out.grown hg2 HB.out.size (fun j hj=>by have:=(HO.out.lt _ hj).1; omega))
     rw [← HNP.out] at hrun2
     have HRUN2:=Lib.hid hrun2
     have HO2:=Lib.hid hown2
     clear h3 hlk hrun2 hown2 hg2
     generalize (ents.map (·.d)).length=m at HRUN2 hcap ⊢
     go_wp2_with (at_builtin; refine Lib.wpList_append_run _ rfl _ _ _ _ rfl _ _ rfl rfl _ _ HRUN2.out ?_)
     obtain ⟨a2,cap2,rfl,_⟩:=ownsRow_sliceN HO2.out
     go_ret
     rw [HR.out]
     exact ⟨a2,cap2,rfl,own_le HO2.out (by omega),HB2.out⟩
 ·have HR:=Lib.hid (HF1.out he)
  have hne:(er != 0)=true:=by simpa using he
  clear HF0 HF1 HC he
  go_enter Tryz.func57,Tryz.ntmps57
  go_wp2_with fail
  (with_reducible refine (HC0.out).mono ?_)
  rintro e u2 ⟨rfl,hb⟩
  rw [← HU.out] at hb
  rw [← HU0.out] at hb
  have HB2:=Lib.hid (HB0.out.trans (hb.mono HB0.out.size))
  have HO2:=Lib.hid (own_below HO0.out hb)
  clear hb HC0 HU HU0
  go_wp2_with fail
  go_ret
  rw [HR.out]
  exact ⟨_,_,rfl,own_le HO2.out (by omega),HB2.out⟩
end Go.Proofs.YtdeggadmbjkpfaaGreat
/- What is reached from some roots: the plain law of both searches. -/
namespace Go.Proofs.YtdeggadmbjkpfaaGreat
open Go.RowKit Go.Shelf Go.Sort
set_option linter.unusedVariables false
inductive Rch (xs:List Itm) (roots:List (Int × Int)):Int × Int → Prop
 | root {d:Int × Int}:d ∈ roots → d ≠ (0,0) → Rch xs roots d
 | link {d l:Int × Int}:Rch xs roots d → (getS xs d).2=0 → l ∈ linksS (getS xs d).1 → l ≠ (0,0) → Rch xs roots l
structure Sea (xs:List Itm) (roots op T M:List (Int × Int)):Prop where
 o:∀ d ∈ op,d ≠ (0,0) → Rch xs roots d
 t:∀ d ∈ T,Rch xs roots d ∧ (getS xs d).2=0
 m:∀ d ∈ M,Rch xs roots d ∧ (getS xs d).2 ≠ 0
 rt:∀ d ∈ roots,d=(0,0) ∨ d ∈ T ∨ d ∈ M ∨ d ∈ op
 ln:∀ d ∈ T,∀ l ∈ linksS (getS xs d).1,l=(0,0) ∨ l ∈ T ∨ l ∈ M ∨ l ∈ op
theorem Sea.start (xs:List Itm) (roots:List (Int × Int)):Sea xs roots roots [] []:=
 ⟨fun d h1 h2=>.root h1 h2,fun d h=>(by simp at h),fun d h=>(by simp at h),fun d h=>.inr (.inr (.inr h)),fun d h=>(by simp at h)⟩
theorem Sea.step {xs:List Itm} {roots op T M op' T' M':List (Int × Int)} (h:Sea xs roots op T M)
  (hk:∀ x,x ∈ op ∨ x ∈ T ∨ x ∈ M → x=(0,0) ∨ x ∈ T' ∨ x ∈ M' ∨ x ∈ op')
  (hT:∀ x ∈ T',x ∈ T ∨ (x ∈ op ∧ x ≠ (0,0) ∧ (getS xs x).2=0))
  (hM:∀ x ∈ M',x ∈ M ∨ (x ∈ op ∧ x ≠ (0,0) ∧ (getS xs x).2 ≠ 0))
  (hO:∀ x ∈ op',x ∈ op ∨ ∃ t ∈ T',x ∈ linksS (getS xs t).1)
  (hN:∀ t ∈ T',t ∉ T → ∀ l ∈ linksS (getS xs t).1,l=(0,0) ∨ l ∈ T' ∨ l ∈ M' ∨ l ∈ op'):Sea xs roots op' T' M':=by
 have ht:∀ d ∈ T',Rch xs roots d ∧ (getS xs d).2=0:=fun d hd=>by
  rcases hT d hd with h1 | ⟨h1,h2,h3⟩
  ·exact h.t d h1
  ·exact ⟨h.o d h1 h2,h3⟩
 refine ⟨fun d hd hz=>?_,ht,fun d hd=>?_,fun d hd=>?_,fun d hd l hl=>?_⟩
 ·rcases hO d hd with h1 | ⟨t,h1,h2⟩
  ·exact h.o d h1 hz
  ·exact .link (ht t h1).1 (ht t h1).2 h2 hz
 ·rcases hM d hd with h1 | ⟨h1,h2,h3⟩
  ·exact h.m d h1
  ·exact ⟨h.o d h1 h2,h3⟩
 ·rcases h.rt d hd with h1 | h1 | h1 | h1
  ·exact .inl h1
  ·exact hk d (.inr (.inl h1))
  ·exact hk d (.inr (.inr h1))
  ·exact hk d (.inl h1)
 ·by_cases hq:d ∈ T
  ·rcases h.ln d hq l hl with h1 | h1 | h1 | h1
   ·exact .inl h1
   ·exact hk l (.inr (.inl h1))
   ·exact hk l (.inr (.inr h1))
   ·exact hk l (.inl h1)
  ·exact hN d hd hq l hl
theorem Sea.done {xs:List Itm} {roots T M:List (Int × Int)} (h:Sea xs roots [] T M) (d:Int × Int):(d ∈ T ↔ Rch xs roots d ∧ (getS xs d).2=0) ∧ (d ∈ M ↔ Rch xs roots d ∧ (getS xs d).2 ≠ 0):=by
 have key:∀ d,Rch xs roots d → d ∈ T ∨ d ∈ M:=by
  intro d hd
  induction hd with
  | root h1 h2=>
   rcases h.rt _ h1 with h3 | h3 | h3 | h3
   ·exact absurd h3 h2
   ·exact .inl h3
   ·exact .inr h3
   ·simp at h3
  | link h1 h2 h3 h4 ih=>
   rcases ih with ih | ih
   ·rcases h.ln _ ih _ h3 with h5 | h5 | h5 | h5
    ·exact absurd h5 h4
    ·exact .inl h5
    ·exact .inr h5
    ·simp at h5
   ·exact absurd h2 (h.m _ ih).2
 refine ⟨⟨h.t d,fun hd=>?_⟩,⟨h.m d,fun hd=>?_⟩⟩
 ·rcases key d hd.1 with h1 | h1
  ·exact h1
  ·exact absurd hd.2 (h.m d h1).2
 ·rcases key d hd.1 with h1 | h1
  ·exact absurd (h.t d h1).2 hd.2
  ·exact h1
theorem nodup_snoc {R:List (Int × Int)} {d:Int × Int} (h:R.Nodup) (hd:d ∉ R):(R ++ [d]).Nodup:=by
 rw [List.nodup_append]
 refine ⟨h,by simp,fun a ha b hb e=>?_⟩
 simp at hb
 exact hd (by rw [← hb,← e]; exact ha)
theorem reachF_sea (xs:List Itm) (roots:List (Int × Int)):∀ (f:Nat) (op met R M:List (Int × Int)),Sea xs roots op R M → (∀ d,d ∈ met ↔ d=(0,0) ∨ d ∈ R ∨ d ∈ M) → R.Nodup → M.Nodup → mea xs op met ≤ f →
  Sea xs roots [] (reachF xs f op met R M).1 (reachF xs f op met R M).2 ∧ (reachF xs f op met R M).1.Nodup ∧ (reachF xs f op met R M).2.Nodup
 | 0,op,met,R,M,h,hm,h1,h2,hf=>by
  have:op=[]:=by unfold mea at hf; exact List.eq_nil_of_length_eq_zero (by omega)
  subst this
  exact ⟨h,h1,h2⟩
 | f + 1,op,met,R,M,h,hm,h1,h2,hf=>by
  rcases List.eq_nil_or_concat op with rfl | ⟨l,d,rfl⟩
  ·rw [reachF_nil]; exact ⟨h,h1,h2⟩
  ·rw [List.concat_eq_append] at h hf ⊢
   have hin:∀ x,x ∈ l ++ [d] ↔ x ∈ l ∨ x=d:=fun x=>by simp
   by_cases hd:d ∈ met
   ·rw [reachF_met hd]
    refine reachF_sea xs roots f l met R M (h.step ?_ (fun x hx=>.inl hx) (fun x hx=>.inl hx) (fun x hx=>.inl ((hin x).2 (.inl hx))) (fun t h1 h2=>absurd h1 h2)) hm h1 h2 (by have:=mea_pop xs l met d; omega)
    intro x hx
    rcases hx with hx | hx | hx
    ·rcases (hin x).1 hx with hx | rfl
     ·exact .inr (.inr (.inr hx))
     ·rcases (hm x).1 hd with h3 | h3 | h3
      ·exact .inl h3
      ·exact .inr (.inl h3)
      ·exact .inr (.inr (.inl h3))
    ·exact .inr (.inl hx)
    ·exact .inr (.inr (.inl hx))
   ·have hz:d ≠ (0,0):=fun e=>hd ((hm d).2 (.inl e))
    have hR:d ∉ R:=fun e=>hd ((hm d).2 (.inr (.inl e)))
    have hM:d ∉ M:=fun e=>hd ((hm d).2 (.inr (.inr e)))
    by_cases he:(getS xs d).2=0
    ·rw [reachF_hit hd he]
     have hfl:((linksS (getS xs d).1).filter fun l=>!decide (l ∈ d :: met)).length ≤ 200:=Nat.le_trans (List.length_filter_le _ _) (links_le _)
     refine reachF_sea xs roots f _ (d :: met) (R ++ [d]) M (h.step ?_ ?_ (fun x hx=>.inl hx) ?_ ?_) (fun x=>?_) (nodup_snoc h1 hR) h2 (by have:=mea_hit (op:=l) hd he hfl; omega)
     ·intro x hx
      rcases hx with hx | hx | hx
      ·rcases (hin x).1 hx with hx | rfl
       ·exact .inr (.inr (.inr (by simp [hx])))
       ·exact .inr (.inl (by simp))
      ·exact .inr (.inl (by simp [hx]))
      ·exact .inr (.inr (.inl hx))
     ·intro x hx
      rcases List.mem_append.1 hx with hx | hx
      ·exact .inl hx
      ·simp at hx; subst hx; exact .inr ⟨(hin x).2 (.inr rfl),hz,he⟩
     ·intro x hx
      rcases List.mem_append.1 hx with hx | hx
      ·exact .inl ((hin x).2 (.inl hx))
      ·exact .inr ⟨d,by simp,(List.mem_filter.1 hx).1⟩
     ·intro t ht htR l2 hl
      have:t=d:=by
       rcases List.mem_append.1 ht with h3 | h3
       ·exact absurd h3 htR
       ·simpa using h3
      subst this
      by_cases h4:l2 ∈ t :: met
      ·rcases List.mem_cons.1 h4 with rfl | h5
       ·exact .inr (.inl (by simp))
       ·rcases (hm l2).1 h5 with h6 | h6 | h6
        ·exact .inl h6
        ·exact .inr (.inl (by simp [h6]))
        ·exact .inr (.inr (.inl h6))
      ·refine .inr (.inr (.inr (List.mem_append.2 (.inr (List.mem_filter.2 ⟨hl,?_⟩)))))
       rw [decide_eq_false h4]; rfl
     ·rw [List.mem_cons,hm x,List.mem_append,List.mem_singleton]
      constructor
      ·rintro (h3 | h3 | h3 | h3)
       ·exact .inr (.inl (.inr h3))
       ·exact .inl h3
       ·exact .inr (.inl (.inl h3))
       ·exact .inr (.inr h3)
      ·rintro (h3 | (h3 | h3) | h3)
       ·exact .inr (.inl h3)
       ·exact .inr (.inr (.inl h3))
       ·exact .inl h3
       ·exact .inr (.inr (.inr h3))
    ·rw [reachF_miss hd he]
     refine reachF_sea xs roots f l (d :: met) R (M ++ [d]) (h.step ?_ (fun x hx=>.inl hx) ?_ (fun x hx=>.inl ((hin x).2 (.inl hx))) (fun t h1 h2=>absurd h1 h2)) (fun x=>?_) h1 (nodup_snoc h2 hM) (by have:=mea_miss xs l met d; omega)
     ·intro x hx
      rcases hx with hx | hx | hx
      ·rcases (hin x).1 hx with hx | rfl
       ·exact .inr (.inr (.inr hx))
       ·exact .inr (.inr (.inl (by simp)))
      ·exact .inr (.inl hx)
      ·exact .inr (.inr (.inl (by simp [hx])))
     ·intro x hx
      rcases List.mem_append.1 hx with hx | hx
      ·exact .inl hx
      ·simp at hx; subst hx; exact .inr ⟨(hin x).2 (.inr rfl),hz,he⟩
     ·rw [List.mem_cons,hm x,List.mem_append,List.mem_singleton]
      constructor
      ·rintro (h3 | h3 | h3 | h3)
       ·exact .inr (.inr (.inr h3))
       ·exact .inl h3
       ·exact .inr (.inl h3)
       ·exact .inr (.inr (.inl h3))
      ·rintro (h3 | h3 | h3 | h3)
       ·exact .inr (.inl h3)
       ·exact .inr (.inr (.inl h3))
       ·exact .inr (.inr (.inr h3))
       ·exact .inl h3
def AscD (l:List (Int × Int)):Prop:=l.Pairwise fun x y=>cmpD x y < 0
theorem ascD_ext:∀ {xs ys:List (Int × Int)},AscD xs → AscD ys → (∀ x,x ∈ xs ↔ x ∈ ys) → xs=ys
 | [],[],_,_,_=>rfl
 | [],y :: ys,_,_,hm=>by have:=(hm y).2 (by simp); simp at this
 | x :: xs,[],_,_,hm=>by have:=(hm x).1 (by simp); simp at this
 | x :: xs,y :: ys,h1,h2,hm=>by
  unfold AscD at h1 h2
  rw [List.pairwise_cons] at h1 h2
  have e:x=y:=by
   rcases List.mem_cons.1 ((hm x).1 (by simp)) with h | h
   ·exact h
   ·rcases List.mem_cons.1 ((hm y).2 (by simp)) with h' | h'
    ·exact h'.symm
    ·have g1:=h1.1 y h'
     have g2:=h2.1 x h
     have:=cmpD_anti (a:=x) (b:=y)
     omega
  subst e
  congr 1
  refine ascD_ext h1.2 h2.2 fun z=>⟨fun hz=>?_,fun hz=>?_⟩
  ·rcases List.mem_cons.1 ((hm z).1 (by simp [hz])) with rfl | h
   ·have:=h1.1 z hz; rw [cmpD_self] at this; omega
   ·exact h
  ·rcases List.mem_cons.1 ((hm z).2 (by simp [hz])) with rfl | h
   ·have:=h2.1 z hz; rw [cmpD_self] at this; omega
   ·exact h
theorem sortS_asc {l:List (Int × Int)} (h:l.Nodup):AscD (sortS l):=by
 have h1:(sortS l).Pairwise (fun x y=>(!(ltOf cmpD) y x)=true):=by
  unfold sortS
  refine List.pairwise_mergeSort (fun a b c h1 h2=>?_) (fun a b=>?_) l
  ·simp only [Bool.not_eq_true'] at h1 h2 ⊢
   exact swoD.ntrans c b a h2 h1
  ·unfold ltOf
   have g1:=cmpD_range a b
   have g2:=cmpD_range b a
   by_cases g:cmpD b a < 0
   ·have:¬ cmpD a b < 0:=by omega
    simp [g,this]
   ·simp [g]
 have h2:(sortS l).Nodup:=(sortS_perm l).nodup_iff.2 h
 refine (h1.and h2).imp ?_
 rintro x y ⟨h3,h4⟩
 unfold ltOf at h3
 simp only [Bool.not_eq_true',decide_eq_false_iff_not] at h3
 have g1:=cmpD_range x y
 have g2:=cmpD_range y x
 have:¬ cmpD x y=0:=fun e=>h4 (cmpD_zero.1 e)
 omega
theorem reachS_law (xs:List Itm) (roots:List (Int × Int)):AscD (reachS xs roots).1 ∧ AscD (reachS xs roots).2 ∧ ∀ d,(d ∈ (reachS xs roots).1 ↔ Rch xs roots d ∧ (getS xs d).2=0) ∧ (d ∈ (reachS xs roots).2 ↔ Rch xs roots d ∧ (getS xs d).2 ≠ 0):=by
 obtain ⟨h1,h2,h3⟩:=reachF_sea xs roots (fuelR xs roots) roots [(0,0)] [] [] (Sea.start xs roots) (fun d=>by simp) (by simp) (by simp) (mea_start xs roots)
 unfold reachS
 refine ⟨sortS_asc h2,sortS_asc h3,fun d=>?_⟩
 simp only
 rw [(sortS_perm _).mem_iff,(sortS_perm _).mem_iff]
 exact h1.done d
theorem posD_cons (y:Int × Int) (l:List (Int × Int)) (d:Int × Int):posD (y :: l) d=if cmpD y d < 0 then posD l d + 1 else 0:=by
 unfold posD
 by_cases h:cmpD y d < 0 <;> simp [h]
theorem withS_cons (y:Int × Int) (l:List (Int × Int)) (d:Int × Int):withS (y :: l) d=if cmpD y d < 0 then y :: withS l d else if y=d then y :: l else d :: y :: l:=by
 unfold withS
 rw [posD_cons]
 by_cases h:cmpD y d < 0
 ·rw [if_pos h,if_pos h]
  simp only [List.getElem?_cons_succ,List.take_succ_cons,List.drop_succ_cons]
  split <;> rfl
 ·rw [if_neg h,if_neg h]
  simp
theorem withS_mem:∀ (l:List (Int × Int)) (d x:Int × Int),x ∈ withS l d ↔ x ∈ l ∨ x=d
 | [],d,x=>by simp [withS,posD]
 | y :: l,d,x=>by
  rw [withS_cons]
  by_cases h:cmpD y d < 0
  ·rw [if_pos h,List.mem_cons,withS_mem l d x,List.mem_cons,or_assoc]
  ·rw [if_neg h]
   by_cases h2:y=d
   ·rw [if_pos h2]
    refine ⟨.inl,fun h3=>?_⟩
    rcases h3 with h3 | h3
    ·exact h3
    ·rw [h3,← h2]; simp
   ·rw [if_neg h2,List.mem_cons]
    exact or_comm
theorem withS_asc:∀ {l:List (Int × Int)} (d:Int × Int),AscD l → AscD (withS l d)
 | [],d,_=>by simp [withS,posD,AscD]
 | y :: l,d,h=>by
  rw [withS_cons]
  have h':=h
  unfold AscD at h
  rw [List.pairwise_cons] at h
  by_cases hc:cmpD y d < 0
  ·rw [if_pos hc]
   refine List.pairwise_cons.2 ⟨fun z hz=>?_,withS_asc d h.2⟩
   rcases (withS_mem l d z).1 hz with h1 | rfl
   ·exact h.1 z h1
   ·exact hc
  ·rw [if_neg hc]
   by_cases h2:y=d
   ·rw [if_pos h2]; exact h'
   ·rw [if_neg h2]
    have hd:cmpD d y < 0:=by
     have g0:¬ cmpD y d=0:=fun e=>h2 (cmpD_zero.1 e)
     have:=cmpD_anti (a:=d) (b:=y)
     omega
    refine List.pairwise_cons.2 ⟨fun z hz=>?_,h'⟩
    rcases List.mem_cons.1 hz with rfl | h1
    ·exact hd
    ·exact cmpD_trans hd (h.1 z h1)
def refF (xs:List Itm):Nat → List (Int × Int) → List (Int × Int) → List (Int × Int) → List (Int × Int) × List (Int × Int)
 | 0,_,T,M=>(T,M)
 | f + 1,[],T,M=>(T,M)
 | f + 1,d :: ws,T,M=>if d=(0,0) ∨ d ∈ T then refF xs f ws T M else if (getS xs d).2 ≠ 0 then refF xs f ws T (withS M d) else refF xs f (ws ++ linksS (getS xs d).1) (withS T d) M
theorem mea_cons (xs:List Itm) (ws T:List (Int × Int)) (d:Int × Int):mea xs (d :: ws) T=mea xs (ws ++ [d]) T:=by
 unfold mea; simp
theorem mea_with (xs:List Itm) (ws T:List (Int × Int)) (d:Int × Int):mea xs ws (withS T d)=mea xs ws (d :: T):=by
 unfold mea
 congr 3
 funext x
 congr 1
 rw [decide_eq_decide,withS_mem,List.mem_cons]
 exact or_comm
theorem refF_sea (xs:List Itm) (roots:List (Int × Int)):∀ (f:Nat) (ws T M:List (Int × Int)),Sea xs roots ws T M → AscD T → AscD M → mea xs ws T ≤ f →
  Sea xs roots [] (refF xs f ws T M).1 (refF xs f ws T M).2 ∧ AscD (refF xs f ws T M).1 ∧ AscD (refF xs f ws T M).2
 | 0,ws,T,M,h,h1,h2,hf=>by
  have:ws=[]:=by unfold mea at hf; exact List.eq_nil_of_length_eq_zero (by omega)
  subst this
  exact ⟨h,h1,h2⟩
 | f + 1,[],T,M,h,h1,h2,hf=>by rw [refF]; exact ⟨h,h1,h2⟩
 | f + 1,d :: ws,T,M,h,h1,h2,hf=>by
  rw [refF]
  rw [mea_cons] at hf
  by_cases hd:d=(0,0) ∨ d ∈ T
  ·rw [if_pos hd]
   refine refF_sea xs roots f ws T M (h.step ?_ (fun x hx=>.inl hx) (fun x hx=>.inl hx) (fun x hx=>.inl (by simp [hx])) (fun t h1 h2=>absurd h1 h2)) h1 h2 (by have:=mea_pop xs ws T d; omega)
   intro x hx
   rcases hx with hx | hx | hx
   ·rcases List.mem_cons.1 hx with rfl | hx
    ·rcases hd with h3 | h3
     ·exact .inl h3
     ·exact .inr (.inl h3)
    ·exact .inr (.inr (.inr hx))
   ·exact .inr (.inl hx)
   ·exact .inr (.inr (.inl hx))
  ·rw [if_neg hd]
   have hz:d ≠ (0,0):=fun e=>hd (.inl e)
   have hT:d ∉ T:=fun e=>hd (.inr e)
   by_cases he:(getS xs d).2=0
   ·rw [if_neg (by simpa using he)]
    refine refF_sea xs roots f _ (withS T d) M (h.step ?_ ?_ (fun x hx=>.inl hx) ?_ ?_) (withS_asc d h1) h2 (by have:=mea_hit (op:=ws) hT he (links_le (getS xs d).1); rw [mea_with]; omega)
    ·intro x hx
     rcases hx with hx | hx | hx
     ·rcases List.mem_cons.1 hx with rfl | hx
      ·exact .inr (.inl ((withS_mem _ _ _).2 (.inr rfl)))
      ·exact .inr (.inr (.inr (by simp [hx])))
     ·exact .inr (.inl ((withS_mem _ _ _).2 (.inl hx)))
     ·exact .inr (.inr (.inl hx))
    ·intro x hx
     rcases (withS_mem _ _ _).1 hx with hx | rfl
     ·exact .inl hx
     ·exact .inr ⟨by simp,hz,he⟩
    ·intro x hx
     rcases List.mem_append.1 hx with hx | hx
     ·exact .inl (by simp [hx])
     ·exact .inr ⟨d,(withS_mem _ _ _).2 (.inr rfl),hx⟩
    ·intro t ht htT l2 hl
     rcases (withS_mem _ _ _).1 ht with h3 | rfl
     ·exact absurd h3 htT
     ·exact .inr (.inr (.inr (List.mem_append.2 (.inr hl))))
   ·rw [if_pos he]
    refine refF_sea xs roots f ws T (withS M d) (h.step ?_ (fun x hx=>.inl hx) ?_ (fun x hx=>.inl (by simp [hx])) (fun t h1 h2=>absurd h1 h2)) h1 (withS_asc d h2) (by have:=mea_pop xs ws T d; omega)
    ·intro x hx
     rcases hx with hx | hx | hx
     ·rcases List.mem_cons.1 hx with rfl | hx
      ·exact .inr (.inr (.inl ((withS_mem _ _ _).2 (.inr rfl))))
      ·exact .inr (.inr (.inr hx))
     ·exact .inr (.inl hx)
     ·exact .inr (.inr (.inl ((withS_mem _ _ _).2 (.inl hx))))
    ·intro x hx
     rcases (withS_mem _ _ _).1 hx with hx | rfl
     ·exact .inl hx
     ·exact .inr ⟨by simp,hz,he⟩
theorem mea_nil (xs:List Itm) (roots:List (Int × Int)):mea xs roots [] ≤ fuelR xs roots:=by
 have:xs.countP (fun x=>!decide (x.d ∈ ([]:List (Int × Int)))) ≤ xs.length:=List.countP_le_length
 unfold mea fuelR
 omega
theorem refF_eq (xs:List Itm) (roots:List (Int × Int)):refF xs (fuelR xs roots) roots [] []=reachS xs roots:=by
 obtain ⟨h1,h2,h3⟩:=refF_sea xs roots (fuelR xs roots) roots [] [] (Sea.start xs roots) (List.Pairwise.nil) (List.Pairwise.nil) (mea_nil xs roots)
 obtain ⟨g1,g2,g3⟩:=reachS_law xs roots
 refine Prod.ext (ascD_ext h2 g1 fun d=>?_) (ascD_ext h3 g2 fun d=>?_)
 ·rw [(h1.done d).1,(g3 d).1]
 ·rw [(h1.done d).2,(g3 d).2]
end Go.Proofs.YtdeggadmbjkpfaaGreat
/- cordwoodref08.Reach. -/
namespace Go.Proofs.YtdeggadmbjkpfaaGreat
open Go.RowKit Go.Shelf
set_option linter.unusedVariables false
def GotDD (w:World) (r:List (Int × Int) × List (Int × Int)) (e:Ending) (w':World):Prop:=
 ∃ a c a' c',e = .returned (.tuple #[.slice a r.1.length c,.slice a' r.2.length c']) ∧ Digs w'.heap.size w' a r.1 ∧ Digs w'.heap.size w' a' r.2 ∧ Below w.heap.size w w'
theorem withS_len:∀ (l:List (Int × Int)) (d:Int × Int),(withS l d).length ≤ l.length + 1
 | [],d=>by simp [withS,posD]
 | y :: l,d=>by
  rw [withS_cons]
  have:=withS_len l d
  split
  ·simp; omega
  ·split <;> simp
structure RMem (w wr:World) (ta:Option Addr) (tc:Nat) (ma:Option Addr) (mc:Nat) (v:Value) (WL T M:List (Int × Int)):Prop where
 dt:Digs wr.heap.size wr ta T
 dm:Digs wr.heap.size wr ma M
 tc:T.length ≤ tc
 mc:M.length ≤ mc
 ow:wr.ownsRow w.heap.size 52 2 v WL.length (dcells WL)
 at':∀ ad,ta=some ad → ad.block < wr.heap.size ∧ v.ownBlock ≠ some ad.block
 am:∀ ad,ma=some ad → ad.block < wr.heap.size ∧ v.ownBlock ≠ some ad.block
 be:Below w.heap.size w wr
section
variable {w wr W':World} {ta ma a:Option Addr} {tc mc c:Nat} {v v':Value} {WL T M T' M' WL':List (Int × Int)}
theorem RMem.below (h:RMem w wr ta tc ma mc v WL T M) (hb:Below wr.heap.size wr W'):RMem w W' ta tc ma mc v WL T M:=
 ⟨h.dt.ahead hb,h.dm.ahead hb,h.tc,h.mc,own_below h.ow hb,fun ad e=>⟨Nat.lt_of_lt_of_le (h.at' ad e).1 hb.size,(h.at' ad e).2⟩,fun ad e=>⟨Nat.lt_of_lt_of_le (h.am ad e).1 hb.size,(h.am ad e).2⟩,h.be.trans (hb.mono h.be.size)⟩
theorem RMem.alloc (h:RMem w wr ta tc ma mc v WL T M) (o:Obj):RMem w (wr.alloc o) ta tc ma mc v WL T M:=h.below ((Below.refl _ _).alloc (Nat.le_refl _) _)
theorem digs_lt {B:Nat} {W:World} {ds:List (Int × Int)} {d:Int × Int} (h:Digs B W a ds) (hd:d ∈ ds):∀ ad,a=some ad → ad.block < B:=by
 intro ad e
 obtain ⟨b,off,h1,h2,_⟩:=h 0 (List.length_pos_of_mem hd)
 rw [h1] at e
 cases e
 exact h2
theorem RMem.new (h:RMem w wr ta tc ma mc v WL T M) (hb:Below wr.heap.size wr W') {d:Int × Int} {L:List (Int × Int)} {pa:Option Addr} (hpa:∀ ad,pa=some ad → ad.block < wr.heap.size ∧ v.ownBlock ≠ some ad.block) (hd:Digs W'.heap.size W' a L) (hm:d ∈ L) (ho:a=pa ∨ ∀ ad,a=some ad → wr.heap.size ≤ ad.block):∀ ad,a=some ad → ad.block < W'.heap.size ∧ v.ownBlock ≠ some ad.block:=by
 intro ad e
 refine ⟨digs_lt hd hm ad e,fun hv=>?_⟩
 rcases ho with h1 | h1
 ·exact (hpa ad (by rw [← h1,e])).2 hv
 ·have h2:=(h.ow.lt _ hv).2
  have h3:=h1 ad e
  omega
theorem RMem.putT (h:RMem w wr ta tc ma mc v WL T M) (hb:Below wr.heap.size wr W') {d:Int × Int} (hd:Digs W'.heap.size W' a T') (hc:T'.length ≤ c) (hm:d ∈ T') (ho:a=ta ∨ ∀ ad,a=some ad → wr.heap.size ≤ ad.block):RMem w W' a c ma mc v WL T' M:=
 have g:=h.below hb
 ⟨hd,g.dm,hc,g.mc,g.ow,h.new hb h.at' hd hm ho,g.am,g.be⟩
theorem RMem.putM (h:RMem w wr ta tc ma mc v WL T M) (hb:Below wr.heap.size wr W') {d:Int × Int} (hd:Digs W'.heap.size W' a M') (hc:M'.length ≤ c) (hm:d ∈ M') (ho:a=ma ∨ ∀ ad,a=some ad → wr.heap.size ≤ ad.block):RMem w W' ta tc a c v WL T M':=
 have g:=h.below hb
 ⟨g.dt,hd,g.tc,hc,g.ow,g.at',h.new hb h.am hd hm ho,g.be⟩
theorem RMem.push (h:RMem w wr ta tc ma mc v WL T M) (hown:W'.ownsRow w.heap.size 52 2 v' WL'.length (dcells WL')) (hg:wr.grownBy W' v.ownBlock) (hat:v'.ownBlock=v.ownBlock ∨ v'.ownBlock=some wr.heap.size):RMem w W' ta tc ma mc v' WL' T M:=by
 have key:∀ ad:Addr,(ad.block < wr.heap.size ∧ v.ownBlock ≠ some ad.block) → ad.block < W'.heap.size ∧ v'.ownBlock ≠ some ad.block:=fun ad h1=>by
  refine ⟨Nat.lt_of_lt_of_le h1.1 hg.size,fun e=>?_⟩
  rcases hat with h2 | h2
  ·exact h1.2 (by rw [← h2]; exact e)
  ·rw [h2] at e
   have:=Option.some.inj e
   omega
 exact ⟨h.dt.kept hg (fun _ ad e=>(h.at' ad e).2),h.dm.kept hg (fun _ ad e=>(h.am ad e).2),h.tc,h.mc,hown,fun ad e=>key ad (h.at' ad e),fun ad e=>key ad (h.am ad e),below_own h.be h.ow hg (Nat.le_refl _)⟩
end
structure REq (xs:List Itm) (R:List (Int × Int) × List (Int × Int)) (F f j:Nat) (WL T M:List (Int × Int)):Prop where
 kl:j ≤ WL.length
 eq:R=refF xs f (WL.drop j) T M
 me:mea xs (WL.drop j) T ≤ f
 jf:j + f ≤ F
 tm:T.length + M.length + f ≤ F
section
variable {xs:List Itm} {R:List (Int × Int) × List (Int × Int)} {F f j:Nat} {WL T M:List (Int × Int)}
theorem REq.len (h:REq xs R F f j WL T M):WL.length ≤ F:=by
 have h1:=h.me
 have h2:=h.jf
 have h3:=h.kl
 unfold mea at h1
 rw [List.length_drop] at h1
 omega
theorem REq.pos (h:REq xs R F f j WL T M) (hj:j < WL.length):∃ g,f=g + 1:=by
 have h1:=h.me
 unfold mea at h1
 rw [List.length_drop] at h1
 exact ⟨f - 1,by omega⟩
theorem REq.fin (h:REq xs R F f j WL T M) (hj:¬ j < WL.length):R=(T,M):=by
 rw [h.eq,List.drop_of_length_le (by omega)]
 cases f <;> rfl
theorem REq.skip (h:REq xs R F (f + 1) j WL T M) (hj:j < WL.length) (hd:WL[j]=(0,0) ∨ WL[j] ∈ T):REq xs R F f (j + 1) WL T M:=by
 have h1:=h.eq
 have h2:=h.me
 rw [List.drop_eq_getElem_cons hj] at h1 h2
 rw [refF,if_pos hd] at h1
 rw [mea_cons] at h2
 have h3:=mea_pop xs (WL.drop (j + 1)) T WL[j]
 exact ⟨hj,h1,by omega,by have:=h.jf; omega,by have:=h.tm; omega⟩
theorem REq.miss (h:REq xs R F (f + 1) j WL T M) (hj:j < WL.length) (hd:¬ (WL[j]=(0,0) ∨ WL[j] ∈ T)) (he:(getS xs WL[j]).2 ≠ 0):REq xs R F f (j + 1) WL T (withS M WL[j]):=by
 have h1:=h.eq
 have h2:=h.me
 rw [List.drop_eq_getElem_cons hj] at h1 h2
 rw [refF,if_neg hd,if_pos he] at h1
 rw [mea_cons] at h2
 have h3:=mea_pop xs (WL.drop (j + 1)) T WL[j]
 exact ⟨hj,h1,by omega,by have:=h.jf; omega,by have:=h.tm; have:=withS_len M WL[j]; omega⟩
theorem REq.hit (h:REq xs R F (f + 1) j WL T M) (hj:j < WL.length) (hd:¬ (WL[j]=(0,0) ∨ WL[j] ∈ T)) (he:(getS xs WL[j]).2=0):REq xs R F f (j + 1) (WL ++ linksS (getS xs WL[j]).1) (withS T WL[j]) M:=by
 have h1:=h.eq
 have h2:=h.me
 rw [List.drop_eq_getElem_cons hj] at h1 h2
 rw [refF,if_neg hd,if_neg (by simpa using he)] at h1
 rw [mea_cons] at h2
 have h3:=mea_hit (op:=WL.drop (j + 1)) (fun e=>hd (.inr e)) he (links_le (getS xs WL[j]).1)
 refine ⟨by rw [List.length_append]; omega,?_,?_,by have:=h.jf; omega,by have:=h.tm; have:=withS_len T WL[j]; omega⟩
 ·rw [List.drop_append_of_le_length hj]; exact h1
 ·rw [List.drop_append_of_le_length hj,mea_with]; exact Nat.le_of_succ_le_succ (Nat.le_trans h3 h2)
end
def RY (xs:List Itm) (R:List (Int × Int) × List (Int × Int)) (F:Nat) (w:World) (f:Nat) (v6 v7 v8 iv:Value) (wr:World):Prop:=
 ∃ j WL T M ta tc ma mc,v6 = .slice ta T.length tc ∧ v7 = .slice ma M.length mc ∧ iv = .int .i64 (j:Nat) ∧ RMem w wr ta tc ma mc v8 WL T M ∧ REq xs R F f j WL T M
theorem get_okO {xs:List Itm} {d:Int × Int} (h:(getS xs d).2=0):OkO (getS xs d).1:=by
 obtain ⟨x,_,_,hd⟩:=getS_good h
 have hg:decodeS x.data=((getS xs d).1,0):=by rw [hd,← h]
 exact (decode_good hg).2
theorem rreach_any (a:Option Addr) (xs:List Itm) (c:Nat) (ra:Option Addr) (roots:List (Int × Int)) (rc:Nat) (w:World) (hp:Its w.heap.size w a xs) (ha:Asc xs) (hr:Digs w.heap.size w ra roots) (hxl:(xs.length:Int) ≤ 80) (hrl:(roots.length:Int) ≤ 10000) (hd:∀ x ∈ xs,(x.data.length:Int) ≤ 1000000) :
  Calls Tryz.prog 30 #[.slice a xs.length c,.slice ra roots.length rc] w (GotDD w (reachS xs roots)):=by
 have HG:=Lib.hid (fun d1 d2 W (hW:Below w.heap.size w W)=>rget_any a xs c d1 d2 W (hp.ahead hW) ha (by omega) hd)
 have hfu:((fuelR xs roots:Nat):Int) ≤ 90000:=by unfold fuelR; omega
 obtain ⟨R,hR⟩:∃ R,R=reachS xs roots:=⟨_,rfl⟩
 have HE0:Hid (REq xs R (fuelR xs roots) (fuelR xs roots) 0 roots [] []):=Lib.hid ⟨by omega,by rw [hR,← refF_eq]; rfl,mea_nil xs roots,by omega,by simp⟩
 rw [← hR]
 generalize fuelR xs roots=F at HE0 hfu
 obtain ⟨n,hn⟩:∃ n,n=xs.length:=⟨_,rfl⟩
 obtain ⟨rn,hrn⟩:∃ rn,rn=roots.length:=⟨_,rfl⟩
 obtain ⟨w1,hw1⟩:∃ w1,w1=w.alloc (.cells #[] 52):=⟨_,rfl⟩
 have hb1:Below w.heap.size w w1:=by rw [hw1]; exact (Below.refl _ w).alloc (Nat.le_refl _) _
 have hoe:w1.ownsRow w.heap.size 52 2 (.slice (some ⟨w.heap.size,0,none⟩) 0 0) 0 []:=by rw [hw1]; exact own_empty _ _ _ _ (Nat.le_refl _)
 obtain ⟨v',W1,hrun,hown,hg1,hat⟩:=append_digs w1 w.heap.size 24 (.slice (some ⟨w.heap.size,0,none⟩) 0 0) [] hoe ra roots rc (hr.ahead hb1) (by simp; omega) hb1.size
 have HM0:Hid (RMem w W1 none 0 none 0 v' roots [] []):=Lib.hid ⟨Digs.nil _ _ _,Digs.nil _ _ _,Nat.le_refl _,Nat.le_refl _,hown,fun ad e=>(by cases e),fun ad e=>(by cases e),below_own hb1 hoe hg1 (Nat.le_refl _)⟩
 rw [← hrn,hw1] at hrun
 have HRUN:=Lib.hid hrun
 rw [← hn] at HG ⊢
 rw [← hrn]
 clear hp ha hr hn hrn hrun hown hg1 hat hb1 hoe hw1 hR hxl hrl hd w1
 go_enter Tryz.func30,Tryz.ntmps30
 go_wp2_with (at_builtin; refine Lib.wpList_append_run _ rfl _ _ _ _ rfl _ _ rfl rfl _ _ HRUN.out ?_)
 go_loopg [6,7,8,9] F (fun k v6 v7 v8 iv wr=>Hid (RY xs R F w k v6 v7 v8 iv wr))
 case atStart=>exact Lib.hid ⟨0,roots,[],[],none,0,none,0,rfl,rfl,rfl,HM0.out,HE0.out⟩
 case round=>
  clear HM0 HE0 HRUN
  obtain ⟨j,WL,T,M,ta,tc,ma,mc,rfl,rfl,rfl,hm,he⟩:=hrel.out
  have HM:=Lib.hid hm
  have HE:=Lib.hid he
  clear hm he hrel
  have hwl:=HE.out.len
  have htm:=HE.out.tm
  obtain ⟨wa,wc,rfl,hwc⟩:=ownsRow_sliceN HM.out.ow
  obtain ⟨len,hlen⟩:∃ len,len=WL.length:=⟨_,rfl⟩
  have HL:=Lib.hid hlen
  by_cases hj:j < WL.length
  ·obtain ⟨gk2,rfl⟩:=HE.out.pos hj
   have hdg:=ownsRow_digs HM.out.ow
   obtain ⟨b0,o0,haa,hb0,q0,q1⟩:=hdg j hj
   subst haa
   have HSK:=Lib.hid (fun h=>HE.out.skip hj h)
   have HMI:=Lib.hid (fun h1 h2=>HE.out.miss hj h1 h2)
   have HHI:=Lib.hid (fun h1 h2=>HE.out.hit hj h1 h2)
   have hj':j < len:=by omega
   have hjb:j < 90000:=by omega
   rw [← hlen] at hwc ⊢
   clear hdg hlen HE
   generalize WL[j]=d at q0 q1 HSK HMI HHI
   clear hj
   obtain ⟨d1,d2⟩:=d
   simp only at q0 q1
   obtain ⟨u0,hu0⟩:∃ u0,u0=wr.alloc (.cells #[.int .u64 d1,.int .u64 d2] 52):=⟨_,rfl⟩
   have HM0:Hid (RMem w u0 ta tc ma mc _ WL T M):=Lib.hid (by rw [hu0]; exact HM.out.alloc _)
   have HK0:Hid (BK wr.heap.size #[.int .u64 d1,.int .u64 d2] 52 u0):=Lib.hid (by rw [hu0]; exact BK.new _ _ _)
   have HIN:=Lib.hid (rin_any ta T tc d1 d2 u0 HM0.out.dt (by omega))
   have hq:=fun W=>eql_dig d1 d2 0 0 W
   rw [hu0] at HIN
   have HU0:=Lib.hid hu0
   clear hu0 HM
   cases hz:(d1 == 0 && d2 == 0) with
   | true=>
    rw [hz] at hq
    have HE1:=Lib.hid (HSK.out (.inl (by simp only [Bool.and_eq_true,beq_iff_eq] at hz; rw [hz.1,hz.2])))
    clear HSK HMI HHI hz HIN
    have HRY:Hid (RY xs R F w gk2 (.slice ta T.length tc) (.slice ma M.length mc) (.slice (some ⟨b0,o0,none⟩) len wc) (.int .i64 ((j + 1:Nat):Int)) u0):=Lib.hid ⟨j + 1,WL,T,M,ta,tc,ma,mc,rfl,rfl,rfl,by rw [HL.out]; exact HM0.out,HE1.out⟩
    rw [HU0.out] at HRY
    rw [show (((j + 1:Nat):Int))=(j:Int) + 1 by omega] at HRY
    clear HM0 HE1 HU0 HK0
    go_wp2_with fail
    go_roundg gk2
    case measure=>omega
    case rel=>exact HRY
   | false=>
    rw [hz] at hq
    have hz0:(d1,d2) ≠ (0,0):=by
     intro e
     simp only [Prod.mk.injEq] at e
     simp [e.1,e.2] at hz
    cases hin:decide ((d1,d2) ∈ T) with
    | true=>
     rw [hin] at HIN
     have HE1:=Lib.hid (HSK.out (.inr (by simpa using hin)))
     clear HSK HMI HHI hz hin
     go_wp2_with fail
     (with_reducible refine (HIN.out).mono ?_)
     rintro e u1 ⟨rfl,hb⟩
     rw [← HU0.out] at hb
     have HRY:Hid (RY xs R F w gk2 (.slice ta T.length tc) (.slice ma M.length mc) (.slice (some ⟨b0,o0,none⟩) len wc) (.int .i64 ((j + 1:Nat):Int)) u1):=Lib.hid ⟨j + 1,WL,T,M,ta,tc,ma,mc,rfl,rfl,rfl,by rw [HL.out]; exact HM0.out.below hb,HE1.out⟩
     rw [show (((j + 1:Nat):Int))=(j:Int) + 1 by omega] at HRY
     clear hb HIN HM0 HE1 HU0 HK0
     go_wp2_with fail
     go_roundg gk2
     case measure=>omega
     case rel=>exact HRY
    | false=>
     rw [hin] at HIN
     have hns:¬ ((d1,d2)=(0,0) ∨ (d1,d2) ∈ T):=fun h=>by
      rcases h with h | h
      ·exact hz0 h
      ·simp [h] at hin
     have HMI2:=Lib.hid (HMI.out hns)
     have HHI2:=Lib.hid (HHI.out hns)
     have HOK:=Lib.hid (fun h=>get_okO (xs:=xs) (d:=(d1,d2)) h)
     clear HSK HMI HHI hz hin hz0 hns
     have HG0:=Lib.hid (fun W hW=>HG.out d1 d2 W hW)
     generalize getS xs (d1,d2)=OE at HG0 HMI2 HHI2 HOK
     obtain ⟨o,er⟩:=OE
     simp only at HG0 HMI2 HHI2 HOK
     go_wp2_with fail
     (with_reducible refine (HIN.out).mono ?_)
     rintro e u1 ⟨rfl,hb⟩
     rw [← HU0.out] at hb
     have HM1:=Lib.hid (HM0.out.below hb)
     have HK1:=Lib.hid (HK0.out.below hb)
     clear hb HIN HM0 HK0 HU0 u0
     obtain ⟨e0,e1⟩:=BK.c2 (show BK _ #[.int .u64 d1,.int .u64 d2] _ _ from HK1.out)
     have HGT:=Lib.hid (HG0.out u1 HM1.out.be)
     go_wp2_with fail
     (with_reducible refine (HGT.out).mono ?_)
     rintro e u2 ⟨ea,ec,pa,pc,rfl,hob,hb⟩
     have HM2:=Lib.hid (HM1.out.below hb)
     have HK2:=Lib.hid (HK1.out.below hb)
     have HOB:=Lib.hid hob
     clear hb hob HM1 HK1 HGT HG0 e0 e1
     obtain ⟨kind,data,ents,⟨t1,t2⟩,pars,author,time,msg⟩:=o
     simp only [Ob.val]
     obtain ⟨ne,hne⟩:∃ ne,ne=ents.length:=⟨_,rfl⟩
     obtain ⟨n,hnp⟩:∃ n,n=pars.length:=⟨_,rfl⟩
     rw [← hne,← hnp]
     have HNE:=Lib.hid hne
     have HNP:=Lib.hid hnp
     clear hne hnp
     obtain ⟨u3,hu3⟩:∃ u3,u3=u2.alloc (.cells #[.int .i64 kind,.string ⟨data.toArray⟩,.slice ea ne ec,.int .u64 t1,.int .u64 t2,.slice pa n pc,.string ⟨author.toArray⟩,.int .i64 time,.string ⟨msg.toArray⟩] 76):=⟨_,rfl⟩
     have HM3:=Lib.hid (HM2.out.alloc (.cells #[.int .i64 kind,.string ⟨data.toArray⟩,.slice ea ne ec,.int .u64 t1,.int .u64 t2,.slice pa n pc,.string ⟨author.toArray⟩,.int .i64 time,.string ⟨msg.toArray⟩] 76))
     have HK3:Hid (BK wr.heap.size #[.int .u64 d1,.int .u64 d2] 52 u3):=Lib.hid (by rw [hu3]; exact HK2.out.alloc _)
     have HKO:Hid (BK u2.heap.size #[.int .i64 kind,.string ⟨data.toArray⟩,.slice ea ne ec,.int .u64 t1,.int .u64 t2,.slice pa n pc,.string ⟨author.toArray⟩,.int .i64 time,.string ⟨msg.toArray⟩] 76 u3):=Lib.hid (by rw [hu3]; exact BK.new _ _ _)
     have HOB3:Hid (ObOwn u1.heap.size u3 _ _ _ _ _):=Lib.hid (by rw [hu3]; exact HOB.out.below ((Below.refl _ _).alloc (Nat.le_refl _) _))
     rw [← hu3] at HM3
     have HU3:=Lib.hid hu3
     obtain ⟨e0,e1⟩:=BK.c2 (show BK _ #[.int .u64 d1,.int .u64 d2] _ _ from HK2.out)
     have p0:=fun z=>cell_a1 e0 z
     have p1:=fun z=>cell_a1 e1 z
     clear hu3 HM2 HOB
     by_cases he:er=0
     ·subst he
      have HE1:=Lib.hid (HHI2.out rfl)
      have HWM:=Lib.hid (rwith_any ta T tc d1 d2 u3 HM3.out.dt HM3.out.tc (by omega))
      rw [HU3.out] at HWM
      have hmm:=(withS_mem T (d1,d2) (d1,d2)).2 (.inr rfl)
      have HOK2:=Lib.hid (HOK.out rfl)
      have hll:=links_le ⟨kind,data,ents,(t1,t2),pars,author,time,msg⟩
      have HBB:=Lib.hid HOB3.out.bb
      clear HMI2 HHI2 HOK
      generalize withS T (d1,d2)=T2 at HE1 HWM hmm
      go_wp2_with fail
      (with_reducible refine (HWM.out).mono ?_)
      rintro e u4 ⟨qa,qc,rfl,hdg,hqc,hfr,hb⟩
      rw [← HU3.out] at hb
      rw [← HU3.out] at hfr
      have HM4:=Lib.hid (HM3.out.putT hb hdg hqc hmm hfr)
      have HKO4:=Lib.hid (HKO.out.below hb)
      have HOB4:=Lib.hid (HOB3.out.below hb)
      have HLK:=Lib.hid (rlinks_any _ ea ec pa pc u4 HOB4.out.inn HBB.out HOK2.out)
      simp only [Ob.val] at HLK
      rw [← HNE.out,← HNP.out] at HLK
      clear hb hdg hqc hfr HWM HM3 HU3 HK2 HK3 HKO HOB3 e0 e1 p0 p1 hmm HOB4 HBB HOK2
      generalize linksS ⟨kind,data,ents,(t1,t2),pars,author,time,msg⟩=ls at HLK hll HE1
      obtain ⟨e0,e1,e2,e3,e4,e5,e6,e7,e8⟩:=BK.c9 (show BK _ #[.int .i64 kind,.string ⟨data.toArray⟩,.slice ea ne ec,.int .u64 t1,.int .u64 t2,.slice pa n pc,.string ⟨author.toArray⟩,.int .i64 time,.string ⟨msg.toArray⟩] _ _ from HKO4.out)
      go_wp2_with fail
      (with_reducible refine (HLK.out).mono ?_)
      rintro e u5 ⟨la,lc,rfl,hols,hb⟩
      have HM5:=Lib.hid (HM4.out.below hb)
      obtain ⟨v2,u6,hrun,hown,hg,hat⟩:=append_digs u5 w.heap.size 24 _ WL HM5.out.ow la ls lc (ownsRow_digs hols) (by push_cast; omega) HM5.out.be.size
      have HM6:=Lib.hid (HM5.out.push hown hg hat)
      have HRY:Hid (RY xs R F w gk2 (.slice qa T2.length qc) (.slice ma M.length mc) v2 (.int .i64 ((j + 1:Nat):Int)) u6):=Lib.hid ⟨j + 1,_,T2,M,qa,qc,ma,mc,rfl,rfl,rfl,HM6.out,HE1.out⟩
      rw [show (((j + 1:Nat):Int))=(j:Int) + 1 by omega] at HRY
      rw [← HL.out] at hrun
      have HRUN:=Lib.hid hrun
      clear hols hb hown hg hat HM5 HM6 HM4 HLK hrun HE1 HKO4 e0 e1 e2 e3 e4 e5 e6 e7 e8
      generalize T2.length=m2 at HRY ⊢
      generalize ls.length=m3 at HRUN ⊢
      go_wp2_with (at_builtin; refine Lib.wpList_append_run _ rfl _ _ _ _ rfl _ _ rfl rfl _ _ HRUN.out ?_)
      go_roundg gk2
      case measure=>omega
      case rel=>exact HRY
     ·have hne:(er != 0)=true:=by simpa using he
      have HE1:=Lib.hid (HMI2.out he)
      have HWM:=Lib.hid (rwith_any ma M mc d1 d2 u3 HM3.out.dm HM3.out.mc (by omega))
      rw [HU3.out] at HWM
      have hmm:=(withS_mem M (d1,d2) (d1,d2)).2 (.inr rfl)
      clear HMI2 HHI2 HOK he
      generalize withS M (d1,d2)=M2 at HE1 HWM hmm
      go_wp2_with fail
      (with_reducible refine (HWM.out).mono ?_)
      rintro e u4 ⟨qa,qc,rfl,hdg,hqc,hfr,hb⟩
      rw [← HU3.out] at hb
      rw [← HU3.out] at hfr
      have HM4:=Lib.hid (HM3.out.putM hb hdg hqc hmm hfr)
      have HRY:Hid (RY xs R F w gk2 (.slice ta T.length tc) (.slice qa M2.length qc) (.slice (some ⟨b0,o0,none⟩) len wc) (.int .i64 ((j + 1:Nat):Int)) u4):=Lib.hid ⟨j + 1,WL,T,M2,ta,tc,qa,qc,rfl,rfl,rfl,by rw [HL.out]; exact HM4.out,HE1.out⟩
      rw [show (((j + 1:Nat):Int))=(j:Int) + 1 by omega] at HRY
      clear hb hdg hqc hfr HWM HM3 HM4 HE1 HU3 HK2 HK3 HKO HOB3 e0 e1 p0 p1 hmm
      generalize M2.length=m2 at HRY ⊢
      go_wp2_with fail
      go_roundg gk2
      case measure=>omega
      case rel=>exact HRY
  ·have HF:=Lib.hid (HE.out.fin hj)
   rw [← hlen]
   have hjl:¬ (j < len):=by rw [hlen]; exact hj
   go_wp2_with fail
   go_ret2
   rw [HF.out]
   exact ⟨ta,tc,ma,mc,rfl,HM.out.dt,HM.out.dm,HM.out.be⟩
end Go.Proofs.YtdeggadmbjkpfaaGreat
