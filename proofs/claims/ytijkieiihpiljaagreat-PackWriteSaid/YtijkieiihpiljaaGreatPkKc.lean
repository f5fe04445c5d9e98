/- Deltas: the reference's add. -/
import Derived.Test.YtijkieiihpiljaaGreatPkKb
import Derived.Deep.RegionHeldLaw
set_option maxRecDepth 100000
set_option maxHeartbeats 16000000
open Go.Lib (hid)
namespace Go.Proofs.YtijkieiihpiljaaGreat
open Go.RowKit Go.Shelf
set_option linter.unusedVariables false
theorem radd04_any (a:Option Addr) (l:List Dop) (c:Nat) (x:Dop) (w:World) (hl:GIn opCs 3 w.heap.size w a l) (hc:l.length<=c) (hn:(l.length:Int)<=800000) (hxs:(x.len:Int)<=1000000/\(x.off:Int)<=1000000/\x.data.length<=1000000) (hls:∀ o ∈ l,(o.len:Int)<=1000000/\(o.off:Int)<=1000000/\o.data.length<=1000000) :
  Calls Tryz.prog 124 #[.slice a l.length c,.agg (opCs x).toArray] w (GotLd w (addO l x)):=by
 obtain ⟨w0,hw0⟩:∃ w0,w0=w.alloc (.cells (opCs x).toArray 180):=⟨_,rfl⟩
 have hb0:Below w.heap.size w w0:=by rw [hw0]; exact (Below.refl _ _).alloc (Nat.le_refl _) _
 have hz0:w0.heap.size=w.heap.size + 1:=by rw [hw0]; simp
 have HX0:Hid (BK w.heap.size (opCs x).toArray 180 w0):=hid (by rw [hw0]; exact BK.new _ _ _)
 have HB0:=hid hb0
 have HL0:=hid (hl.ahead hb0)
 obtain ⟨xo,xl,xd⟩:=x
 simp only [opCs] at hw0 HX0
 simp only at hxs
 by_cases h0:l.length=0
 ·obtain rfl:l=[]:=List.length_eq_zero_iff.1 h0
  have HR:Hid (addO [] ⟨xo,xl,xd⟩=[] ++ [⟨xo,xl,xd⟩]):=hid rfl
  have HNL:Hid (0=([]:List Dop).length):=hid rfl
  have hld:GIn opCs 3 w0.drew.heap.size w0.drew a []:=HL0.out
  have HBD:=hid HB0.out.drew
  have HS:Hid (∀ W,Below w0.drew.heap.size w0.drew W->W.cell? ⟨w.heap.size,0,none⟩=some (.int .i64 (xo:Int))/\W.cell? ⟨w.heap.size,1,none⟩=some (.int .i64 (xl:Int))/\W.cell? ⟨w.heap.size,2,none⟩=some (.string ⟨xd.toArray⟩)):=hid (fun W hW=>by
   have h:=HX0.out.below (show Below w0.heap.size w0 W from ((Below.refl _ w0).drew).trans hW)
   exact ⟨by rw [h.cell]; rfl,by rw [h.cell]; rfl,by rw [h.cell]; rfl⟩)
  have hs0:=HS.out w0.drew (Below.refl _ _)
  obtain ⟨zv1,z1,za,zc,z3,H11,H12,HF1,hb1⟩:=opT1 (u:=w0.drew) (A1:=a) (c1:=c) ⟨xo,xl,xd⟩ hld rfl (by simp)
  obtain ⟨yv1,y1,ya,yc,y3,H21,H22,HF2,hb2⟩:=opT2 (u:=w0.drew) (A1:=a) (c1:=c) ⟨xo,xl,xd⟩ hld rfl (by simp)
  obtain ⟨tv1,t1,ta,tc,t3,H31,H32,HF3,hb3⟩:=opT3 (u:=w0.drew) (A1:=a) (c1:=c) ⟨xo,xl,xd⟩ hld rfl (by simp)
  have HZ1:=hid hb1
  have HZ2:=hid hb2
  have HZ3:=hid hb3
  have HA1:Below w0.drew.heap.size w0.drew (w0.drew.alloc (.cells #[] 180)):=(Below.refl _ _).alloc (Nat.le_refl _) _
  have HC1:Below w0.drew.heap.size w0.drew (w0.drew.alloc (.cells (opCs ⟨xo,xl,xd⟩).toArray 180)):=(Below.refl _ _).alloc (Nat.le_refl _) _
  have HA1:=hid HA1
  have HC1:=hid HC1
  simp only [opCs,List.length_nil,Nat.zero_add] at H11 H12 H21 H22 H31 H32 HC1 ⊢
  have HW0:=hid hw0
  clear hb0 hl hc hn h0 hb1 hb2 hb3 hw0 hld hz0 hxs hls
  go_enter Tryz.func124,Tryz.ntmps124
  go_wp2_with fail
  rw [<-HW0.out]
  refine wp_region_held_drew (S:=(fun W=>W.cell? ⟨w.heap.size,0,none⟩=some (.int .i64 (xo:Int))/\W.cell? ⟨w.heap.size,1,none⟩=some (.int .i64 (xl:Int))/\W.cell? ⟨w.heap.size,2,none⟩=some (.string ⟨xd.toArray⟩))) (by kernel_rfl) hs0 (fun hHeld=>?_)
  refine wpAnyH_take (i:=1) (v:=?vv133) rfl (by kernel_rfl) (by kernel_rfl) (by kernel_rfl) (fun _ _ _ h=>h) (Or.inl ⟨by rfl,?hy133⟩) (by assumption) ?rest133
  case hy133=>(intro wx hSw; (try dsimp only at hSw); go_simp; try (with_reducible rfl))
  simp only [Act.put,zA,zB,zC,zD,zE,zF]
  refine wpAnyH_take (i:=3) (v:=?vv134) rfl (by kernel_rfl) (by kernel_rfl) (by kernel_rfl) (fun _ _ _ h=>h) (Or.inl ⟨by rfl,?hy134⟩) (by assumption) ?rest134
  case hy134=>(intro wx hSw; (try dsimp only at hSw); go_simp; try (with_reducible rfl))
  simp only [Act.put,zA,zB,zC,zD,zE,zF]
  refine wpAnyH_ready (rs:=[0,4]) (by kernel_rfl) (by simp) ?_
  refine AllReadyH.cons rfl (fun K hK=>?_) ?_
  ·go_simp
   refine hK.out _ _ (HS.out _ HA1.out) (fun hHeld=>?_)
   clear hK K
   refine wpAnyH_ready (rs:=[2,4]) (by kernel_rfl) (by simp) ?_
   refine AllReadyH.cons rfl (fun K hK=>?_) ?_
   ·refine Lib.wp_append_run _ (.tmp 73) (.tmp 74) _ _ rfl _ _ rfl rfl _ _ H11.out ?_
    refine hK.out _ _ (HS.out _ HZ1.out) (fun hHeld=>?_)
    clear hK K
    refine wpAnyH_ready (rs:=[4]) (by kernel_rfl) (by simp) ?_
    refine AllReadyH.cons rfl (fun K hK=>?_) AllReadyH.nil
    go_simp
    refine hK.out _ _ (HS.out _ (HZ1.out.alloc HZ1.out.size _)) (fun hHeld=>?_)
    clear hK K
    refine wpAnyH_ready (rs:=[5]) (by kernel_rfl) (by simp) ?_
    refine AllReadyH.cons rfl (fun K hK=>?_) AllReadyH.nil
    refine Lib.wp_append_run _ (.tmp 75) (.tmp 77) _ _ rfl _ _ rfl rfl _ _ H12.out ?_
    refine hK.out _ _ (HS.out _ HF1.out.bel) (fun hHeld=>?_)
    clear hK K
    refine wpAnyH_take (i:=6) (v:=?vv135) rfl (by kernel_rfl) (by kernel_rfl) (by kernel_rfl) (fun _ _ _ h=>h) (Or.inl ⟨by rfl,?hy135⟩) (by assumption) ?rest135
    case hy135=>(intro wx hSw; (try dsimp only at hSw); go_simp; try (with_reducible rfl))
    simp only [Act.put,zA,zB,zC,zD,zE,zF]
    refine wpAnyH_done (by kernel_rfl) ?_ _
    go_wp2_with fail
    go_ret
    rw [HR.out]
    exact ⟨za,zc,by rw [List.length_append,List.length_singleton,<-HNL.out]; rfl,HF1.out.gin,HF1.out.cap,HBD.out.trans (HF1.out.bel.mono HBD.out.size)⟩
   ·refine AllReadyH.cons rfl (fun K hK=>?_) AllReadyH.nil
    go_simp
    refine hK.out _ _ (HS.out _ (HA1.out.alloc HA1.out.size _)) (fun hHeld=>?_)
    clear hK K
    refine wpAnyH_ready (rs:=[2]) (by kernel_rfl) (by simp) ?_
    refine AllReadyH.cons rfl (fun K hK=>?_) AllReadyH.nil
    refine Lib.wp_append_run _ (.tmp 73) (.tmp 74) _ _ rfl _ _ rfl rfl _ _ H21.out ?_
    refine hK.out _ _ (HS.out _ HZ2.out) (fun hHeld=>?_)
    clear hK K
    refine wpAnyH_ready (rs:=[5]) (by kernel_rfl) (by simp) ?_
    refine AllReadyH.cons rfl (fun K hK=>?_) AllReadyH.nil
    refine Lib.wp_append_run _ (.tmp 75) (.tmp 77) _ _ rfl _ _ rfl rfl _ _ H22.out ?_
    refine hK.out _ _ (HS.out _ HF2.out.bel) (fun hHeld=>?_)
    clear hK K
    refine wpAnyH_take (i:=6) (v:=?vv136) rfl (by kernel_rfl) (by kernel_rfl) (by kernel_rfl) (fun _ _ _ h=>h) (Or.inl ⟨by rfl,?hy136⟩) (by assumption) ?rest136
    case hy136=>(intro wx hSw; (try dsimp only at hSw); go_simp; try (with_reducible rfl))
    simp only [Act.put,zA,zB,zC,zD,zE,zF]
    refine wpAnyH_done (by kernel_rfl) ?_ _
    go_wp2_with fail
    go_ret
    rw [HR.out]
    exact ⟨ya,yc,by rw [List.length_append,List.length_singleton,<-HNL.out]; rfl,HF2.out.gin,HF2.out.cap,HBD.out.trans (HF2.out.bel.mono HBD.out.size)⟩
  ·refine AllReadyH.cons rfl (fun K hK=>?_) AllReadyH.nil
   go_simp
   refine hK.out _ _ (HS.out _ HC1.out) (fun hHeld=>?_)
   clear hK K
   refine wpAnyH_ready (rs:=[0]) (by kernel_rfl) (by simp) ?_
   refine AllReadyH.cons rfl (fun K hK=>?_) AllReadyH.nil
   go_simp
   refine hK.out _ _ (HS.out _ (HC1.out.alloc HC1.out.size _)) (fun hHeld=>?_)
   clear hK K
   refine wpAnyH_ready (rs:=[2]) (by kernel_rfl) (by simp) ?_
   refine AllReadyH.cons rfl (fun K hK=>?_) AllReadyH.nil
   refine Lib.wp_append_run _ (.tmp 73) (.tmp 74) _ _ rfl _ _ rfl rfl _ _ H31.out ?_
   refine hK.out _ _ (HS.out _ HZ3.out) (fun hHeld=>?_)
   clear hK K
   refine wpAnyH_ready (rs:=[5]) (by kernel_rfl) (by simp) ?_
   refine AllReadyH.cons rfl (fun K hK=>?_) AllReadyH.nil
   refine Lib.wp_append_run _ (.tmp 75) (.tmp 77) _ _ rfl _ _ rfl rfl _ _ H32.out ?_
   refine hK.out _ _ (HS.out _ HF3.out.bel) (fun hHeld=>?_)
   clear hK K
   refine wpAnyH_take (i:=6) (v:=?vv137) rfl (by kernel_rfl) (by kernel_rfl) (by kernel_rfl) (fun _ _ _ h=>h) (Or.inl ⟨by rfl,?hy137⟩) (by assumption) ?rest137
   case hy137=>(intro wx hSw; (try dsimp only at hSw); go_simp; try (with_reducible rfl))
   simp only [Act.put,zA,zB,zC,zD,zE,zF]
   refine wpAnyH_done (by kernel_rfl) ?_ _
   go_wp2_with fail
   go_ret
   rw [HR.out]
   exact ⟨ta,tc,by rw [List.length_append,List.length_singleton,<-HNL.out]; rfl,HF3.out.gin,HF3.out.cap,HBD.out.trans (HF3.out.bel.mono HBD.out.size)⟩
 ·obtain ⟨y,l',rfl⟩:∃ y l',l=l' ++ [y]:=by
   rcases List.eq_nil_or_concat l with rfl | ⟨l',y,rfl⟩
   ·exact absurd rfl h0
   ·exact ⟨y,l',by simp⟩
  obtain ⟨n,hnn⟩:∃ n,n=l'.length:=⟨_,rfl⟩
  have hlen:(l' ++ [y]).length=n + 1:=by rw [List.length_append,List.length_singleton,hnn]
  have hyb:=hls y (by simp)
  obtain ⟨b0,of0,rfl,hbb,q0,q1,q2⟩:=op_cells HL0.out (k:=n) (by omega)
  rw [List.getElem_append_right (by omega)] at q0 q1 q2
  simp only [<-hnn,Nat.sub_self,List.getElem_cons_zero] at q0 q1 q2
  obtain ⟨w1,hw1⟩:∃ w1,w1=w0.alloc (.cells (opCs y).toArray 180):=⟨_,rfl⟩
  have hb1:Below w0.heap.size w0 w1:=by rw [hw1]; exact (Below.refl _ _).alloc (Nat.le_refl _) _
  have HY1:Hid (BK (w.heap.size + 1) (opCs y).toArray 180 w1):=hid (by rw [hw1,<-hz0]; exact BK.new _ _ _)
  have HX1:=hid (HX0.out.below hb1)
  have HB1:=hid (HB0.out.trans (hb1.mono HB0.out.size))
  have HL1:=hid (HL0.out.ahead hb1)
  obtain ⟨yo,yl,yd⟩:=y
  simp only [opCs] at q0 q1 q2 hw1 HY1
  simp only at hyb
  rw [hlen] at hc hn ⊢
  have hlast:(l' ++ [(⟨yo,yl,yd⟩:Dop)]).getLast? = some ⟨yo,yl,yd⟩:=by simp
  have hdl:(l' ++ [(⟨yo,yl,yd⟩:Dop)]).dropLast=l':=by simp
  have HNN:=hid hnn
  have hsub:IntKind.i64.wrap (((n + 1:Nat):Int) - 1)=(n:Int):=by rw [wrap_i64 (by omega) (by omega)]; omega
  have hpos:(0:Int) < ((n + 1:Nat):Int):=by omega
  have hnl:(n:Int) < ((n + 1:Nat):Int):=by omega
  obtain ⟨m,hm⟩:∃ m,m=n + 1:=⟨_,rfl⟩
  rw [<-hm] at hc hn hsub hpos hnl ⊢
  have HM:=hid hm
  obtain ⟨A1,c1,hA1,hs1⟩:=oslice_hi (some ⟨b0,of0,none⟩) m c n (by omega)
  have hnc:(n:Int)<=(c:Int):=by omega
  have hlt':GIn opCs 3 w1.drew.heap.size w1.drew A1 l':=by
   have h:=hA1 _ _ _ HL1.out
   rwa [List.take_left' hnn.symm] at h
  have HBD:=hid HB1.out.drew
  have HS:Hid (∀ W,Below w1.drew.heap.size w1.drew W->W.cell? ⟨w.heap.size,0,none⟩=some (.int .i64 (xo:Int))/\W.cell? ⟨w.heap.size,1,none⟩=some (.int .i64 (xl:Int))/\W.cell? ⟨w.heap.size,2,none⟩=some (.string ⟨xd.toArray⟩)/\W.cell? ⟨w.heap.size + 1,0,none⟩=some (.int .i64 (yo:Int))/\W.cell? ⟨w.heap.size + 1,1,none⟩=some (.int .i64 (yl:Int))/\W.cell? ⟨w.heap.size + 1,2,none⟩=some (.string ⟨yd.toArray⟩)):=hid (fun W hW=>by
   have h:=HX1.out.below (show Below w1.heap.size w1 W from ((Below.refl _ w1).drew).trans hW)
   have h':=HY1.out.below (show Below w1.heap.size w1 W from ((Below.refl _ w1).drew).trans hW)
   exact ⟨by rw [h.cell]; rfl,by rw [h.cell]; rfl,by rw [h.cell]; rfl,by rw [h'.cell]; rfl,by rw [h'.cell]; rfl,by rw [h'.cell]; rfl⟩)
  have hs0:=HS.out w1.drew (Below.refl _ _)
  have hcx:w1.cell? ⟨w.heap.size,0,none⟩=some (.int .i64 (xo:Int))/\w1.cell? ⟨w.heap.size,1,none⟩=some (.int .i64 (xl:Int))/\w1.cell? ⟨w.heap.size,2,none⟩=some (.string ⟨xd.toArray⟩)/\w1.cell? ⟨w.heap.size + 1,0,none⟩=some (.int .i64 (yo:Int))/\w1.cell? ⟨w.heap.size + 1,1,none⟩=some (.int .i64 (yl:Int))/\w1.cell? ⟨w.heap.size + 1,2,none⟩=some (.string ⟨yd.toArray⟩):=HS.out w1 (by exact ⟨rfl,rfl,rfl,Nat.le_refl _,fun _ _=>rfl⟩)
  obtain ⟨p0,p1,p2,r0,r1,r2⟩:=hcx
  have HNL:Hid (n=l'.length):=hid hnn
  have HLF:Hid (GIn opCs 3 w1.drew.heap.size w1.drew (some ⟨b0,of0,none⟩) (l' ++ [(⟨yo,yl,yd⟩:Dop)])):=HL1
  have hnx:((n:Nat):Int)<=900000:=by omega
  have hmx:((m:Nat):Int)<=900000:=by omega
  have HNM:Hid (m=(l' ++ [(⟨yo,yl,yd⟩:Dop)]).length):=hid (by rw [hlen,hm])
  by_cases c1':xl=0/\yl=0
  ·have c1z:=c1'
   obtain ⟨rfl,rfl⟩:=c1'
   have HR:Hid (addO (l' ++ [(⟨yo,0,yd⟩:Dop)]) ⟨xo,0,xd⟩=l' ++ [⟨0,0,yd ++ xd⟩]):=hid (by unfold addO; rw [hlast,hdl]; simp only; simp)
   obtain ⟨zv1,z1,za,zc,z3,H11,H12,HF1,hb1⟩:=opT1 (u:=w1.drew) (A1:=A1) (c1:=c1) ⟨0,0,yd ++ xd⟩ hlt' hnn hnx
   obtain ⟨yv1,y1,ya,yc,y3,H21,H22,HF2,hb2⟩:=opT2 (u:=w1.drew) (A1:=A1) (c1:=c1) ⟨0,0,yd ++ xd⟩ hlt' hnn hnx
   obtain ⟨tv1,t1,ta,tc,t3,H31,H32,HF3,hb3⟩:=opT3 (u:=w1.drew) (A1:=A1) (c1:=c1) ⟨0,0,yd ++ xd⟩ hlt' hnn hnx
   have HZ1:=hid hb1
   have HZ2:=hid hb2
   have HZ3:=hid hb3
   have HA1:Below w1.drew.heap.size w1.drew (w1.drew.alloc (.cells #[] 180)):=(Below.refl _ _).alloc (Nat.le_refl _) _
   have HC1:Below w1.drew.heap.size w1.drew (w1.drew.alloc (.cells (opCs ⟨0,0,yd ++ xd⟩).toArray 180)):=(Below.refl _ _).alloc (Nat.le_refl _) _
   have HA1:=hid HA1
   have HC1:=hid HC1
   have hadd:∀ W,(Op.stringOp .add ⟨yd.toArray⟩ ⟨xd.toArray⟩).run Tryz.prog W = .ok (.string ⟨(yd ++ xd).toArray⟩) W:=fun W=>(run_string_add_sum (P:=Tryz.prog) (w:=W) ⟨yd.toArray⟩ ⟨xd.toArray⟩ (by rw [ba_len,ba_len]; omega)).trans (by rw [ba_append])
   replace hw0:w0=w.alloc (.cells #[.int .i64 (xo:Int),.int .i64 0,.string ⟨xd.toArray⟩] 180):=hw0
   replace hw1:w1=w0.alloc (.cells #[.int .i64 (yo:Int),.int .i64 0,.string ⟨yd.toArray⟩] 180):=hw1
   replace p1:w1.cell? ⟨w.heap.size,1,none⟩=some (.int .i64 0):=p1
   replace r1:w1.cell? ⟨w.heap.size + 1,1,none⟩=some (.int .i64 0):=r1
   replace q1:w0.cell? ⟨b0,of0 + n * 3 + 1,none⟩=some (.int .i64 0):=q1
   simp only [opCs] at H11 H12 H21 H22 H31 H32 HC1 ⊢
   have HW0:=hid hw0
   have HW1:=hid hw1
   rw [hw1,hw0] at p0 p1 p2 r0 r1 r2
   rw [hw0] at q0 q1 q2
   clear hw0 hw1 hb0 hl hb1 hz0 hlast hdl hnn hm hlen hls h0 hlt' hA1
   go_enter Tryz.func124,Tryz.ntmps124
   go_wp2_with fail
   rw [<-HW0.out,<-HW1.out]
   clear p0 p1 p2 r0 r1 r2 q0 q1 q2
   refine wp_region_held_drew (S:=(fun W=>W.cell? ⟨w.heap.size,0,none⟩=some (.int .i64 (xo:Int))/\W.cell? ⟨w.heap.size,1,none⟩=some (.int .i64 0)/\W.cell? ⟨w.heap.size,2,none⟩=some (.string ⟨xd.toArray⟩)/\W.cell? ⟨w.heap.size + 1,0,none⟩=some (.int .i64 (yo:Int))/\W.cell? ⟨w.heap.size + 1,1,none⟩=some (.int .i64 0)/\W.cell? ⟨w.heap.size + 1,2,none⟩=some (.string ⟨yd.toArray⟩))) (by kernel_rfl) hs0 (fun hHeld=>?_)
   refine wpAnyH_take (i:=1) (v:=?vv138) rfl (by kernel_rfl) (by kernel_rfl) (by kernel_rfl) (fun _ _ _ h=>h) (Or.inl ⟨by rfl,?hy138⟩) (by assumption) ?rest138
   case hy138=>(intro wx hSw; (try dsimp only at hSw); go_simp; try (with_reducible rfl))
   simp only [Act.put,zA,zB,zC,zD,zE,zF]
   refine wpAnyH_take (i:=2) (v:=?vv139) rfl (by kernel_rfl) (by kernel_rfl) (by kernel_rfl) (fun _ _ _ h=>h) (Or.inl ⟨by rfl,?hy139⟩) (by assumption) ?rest139
   case hy139=>(intro wx hSw; (try dsimp only at hSw); go_simp; try (with_reducible rfl))
   simp only [Act.put,zA,zB,zC,zD,zE,zF]
   refine wpAnyH_take (i:=3) (v:=?vv140) rfl (by kernel_rfl) (by kernel_rfl) (by kernel_rfl) (fun _ _ _ h=>h) (Or.inl ⟨by rfl,?hy140⟩) (by assumption) ?rest140
   case hy140=>(intro wx hSw; (try dsimp only at hSw); go_simp; try (with_reducible rfl))
   simp only [Act.put,zA,zB,zC,zD,zE,zF]
   refine wpAnyH_take (i:=4) (v:=?vv141) rfl (by kernel_rfl) (by kernel_rfl) (by kernel_rfl) (fun _ _ _ h=>h) (Or.inl ⟨by rfl,?hy141⟩) (by assumption) ?rest141
   case hy141=>(intro wx hSw; (try dsimp only at hSw); go_simp; try (with_reducible rfl))
   simp only [Act.put,zA,zB,zC,zD,zE,zF]
   refine wpAnyH_take (i:=5) (v:=?vv142) rfl (by kernel_rfl) (by kernel_rfl) (by kernel_rfl) (fun _ _ _ h=>h) (Or.inl ⟨by rfl,?hy142⟩) (by assumption) ?rest142
   case hy142=>(intro wx hSw; (try dsimp only at hSw); go_simp; try (with_reducible rfl))
   simp only [Act.put,zA,zB,zC,zD,zE,zF]
   refine wpAnyH_take (i:=7) (v:=?vv143) rfl (by kernel_rfl) (by kernel_rfl) (by kernel_rfl) (fun _ _ _ h=>h) (Or.inl ⟨by rfl,?hy143⟩) (by assumption) ?rest143
   case hy143=>(intro wx hSw; (try dsimp only at hSw); go_simp; try (with_reducible rfl))
   simp only [Act.put,zA,zB,zC,zD,zE,zF]
   refine wpAnyH_take (i:=8) (v:=?vv144) rfl (by kernel_rfl) (by kernel_rfl) (by kernel_rfl) (fun _ _ _ h=>h) (Or.inl ⟨by rfl,?hy144⟩) (by assumption) ?rest144
   case hy144=>(intro wx hSw; (try dsimp only at hSw); go_simp; try (with_reducible rfl))
   simp only [Act.put,zA,zB,zC,zD,zE,zF]
   refine wpAnyH_take (i:=9) (v:=?vv145) rfl (by kernel_rfl) (by kernel_rfl) (by kernel_rfl) (fun _ _ _ h=>h) (Or.inl ⟨by rfl,?hy145⟩) (by assumption) ?rest145
   case hy145=>(intro wx hSw; (try dsimp only at hSw); go_simp; try (with_reducible rfl))
   simp only [Act.put,zA,zB,zC,zD,zE,zF]
   refine wpAnyH_take (i:=10) (v:=?vv146) rfl (by kernel_rfl) (by kernel_rfl) (by kernel_rfl) (fun _ _ _ h=>h) (Or.inl ⟨by rfl,?hy146⟩) (by assumption) ?rest146
   case hy146=>(intro wx hSw; (try dsimp only at hSw); go_simp; try (with_reducible rfl))
   simp only [Act.put,zA,zB,zC,zD,zE,zF]
   refine wpAnyH_take (i:=11) (v:=?vv147) rfl (by kernel_rfl) (by kernel_rfl) (by kernel_rfl) (fun _ _ _ h=>h) (Or.inl ⟨by rfl,?hy147⟩) (by assumption) ?rest147
   case hy147=>(intro wx hSw; (try dsimp only at hSw); go_simp; try (with_reducible rfl))
   simp only [Act.put,zA,zB,zC,zD,zE,zF]
   refine wpAnyH_take (i:=12) (v:=?vv148) rfl (by kernel_rfl) (by kernel_rfl) (by kernel_rfl) (fun _ _ _ h=>h) (Or.inl ⟨by rfl,?hy148⟩) (by assumption) ?rest148
   case hy148=>(intro wx hSw; (try dsimp only at hSw); go_simp; try (with_reducible rfl))
   simp only [Act.put,zA,zB,zC,zD,zE,zF]
   refine wpAnyH_ready (rs:=[0,13]) (by kernel_rfl) (by simp) ?_
   refine AllReadyH.cons rfl (fun K hK=>?_) ?_
   ·go_simp
    refine hK.out _ _ (HS.out _ HA1.out) (fun hHeld=>?_)
    clear hK K
    refine wpAnyH_ready (rs:=[6,13]) (by kernel_rfl) (by simp) ?_
    refine AllReadyH.cons rfl (fun K hK=>?_) ?_
    ·refine Lib.wp_append_run _ (.tmp 23) (.tmp 28) _ _ rfl _ _ rfl rfl _ _ H11.out ?_
     refine hK.out _ _ (HS.out _ HZ1.out) (fun hHeld=>?_)
     clear hK K
     refine wpAnyH_ready (rs:=[13]) (by kernel_rfl) (by simp) ?_
     refine AllReadyH.cons rfl (fun K hK=>?_) AllReadyH.nil
     go_simp
     refine hK.out _ _ (HS.out _ (HZ1.out.alloc HZ1.out.size _)) (fun hHeld=>?_)
     clear hK K
     refine wpAnyH_ready (rs:=[14]) (by kernel_rfl) (by simp) ?_
     refine AllReadyH.cons rfl (fun K hK=>?_) AllReadyH.nil
     refine Lib.wp_append_run _ (.tmp 29) (.tmp 36) _ _ rfl _ _ rfl rfl _ _ H12.out ?_
     refine hK.out _ _ (HS.out _ HF1.out.bel) (fun hHeld=>?_)
     clear hK K
     refine wpAnyH_take (i:=15) (v:=?vv149) rfl (by kernel_rfl) (by kernel_rfl) (by kernel_rfl) (fun _ _ _ h=>h) (Or.inl ⟨by rfl,?hy149⟩) (by assumption) ?rest149
     case hy149=>(intro wx hSw; (try dsimp only at hSw); go_simp; try (with_reducible rfl))
     simp only [Act.put,zA,zB,zC,zD,zE,zF]
     refine wpAnyH_done (by kernel_rfl) ?_ _
     go_wp2_with fail
     go_ret
     rw [HR.out]
     exact ⟨za,zc,by rw [List.length_append,List.length_singleton,<-HNL.out]; rfl,HF1.out.gin,HF1.out.cap,HBD.out.trans (HF1.out.bel.mono HBD.out.size)⟩
    ·refine AllReadyH.cons rfl (fun K hK=>?_) AllReadyH.nil
     go_simp
     refine hK.out _ _ (HS.out _ (HA1.out.alloc HA1.out.size _)) (fun hHeld=>?_)
     clear hK K
     refine wpAnyH_ready (rs:=[6]) (by kernel_rfl) (by simp) ?_
     refine AllReadyH.cons rfl (fun K hK=>?_) AllReadyH.nil
     refine Lib.wp_append_run _ (.tmp 23) (.tmp 28) _ _ rfl _ _ rfl rfl _ _ H21.out ?_
     refine hK.out _ _ (HS.out _ HZ2.out) (fun hHeld=>?_)
     clear hK K
     refine wpAnyH_ready (rs:=[14]) (by kernel_rfl) (by simp) ?_
     refine AllReadyH.cons rfl (fun K hK=>?_) AllReadyH.nil
     refine Lib.wp_append_run _ (.tmp 29) (.tmp 36) _ _ rfl _ _ rfl rfl _ _ H22.out ?_
     refine hK.out _ _ (HS.out _ HF2.out.bel) (fun hHeld=>?_)
     clear hK K
     refine wpAnyH_take (i:=15) (v:=?vv150) rfl (by kernel_rfl) (by kernel_rfl) (by kernel_rfl) (fun _ _ _ h=>h) (Or.inl ⟨by rfl,?hy150⟩) (by assumption) ?rest150
     case hy150=>(intro wx hSw; (try dsimp only at hSw); go_simp; try (with_reducible rfl))
     simp only [Act.put,zA,zB,zC,zD,zE,zF]
     refine wpAnyH_done (by kernel_rfl) ?_ _
     go_wp2_with fail
     go_ret
     rw [HR.out]
     exact ⟨ya,yc,by rw [List.length_append,List.length_singleton,<-HNL.out]; rfl,HF2.out.gin,HF2.out.cap,HBD.out.trans (HF2.out.bel.mono HBD.out.size)⟩
   ·refine AllReadyH.cons rfl (fun K hK=>?_) AllReadyH.nil
    go_simp
    refine hK.out _ _ (HS.out _ HC1.out) (fun hHeld=>?_)
    clear hK K
    refine wpAnyH_ready (rs:=[0]) (by kernel_rfl) (by simp) ?_
    refine AllReadyH.cons rfl (fun K hK=>?_) AllReadyH.nil
    go_simp
    refine hK.out _ _ (HS.out _ (HC1.out.alloc HC1.out.size _)) (fun hHeld=>?_)
    clear hK K
    refine wpAnyH_ready (rs:=[6]) (by kernel_rfl) (by simp) ?_
    refine AllReadyH.cons rfl (fun K hK=>?_) AllReadyH.nil
    refine Lib.wp_append_run _ (.tmp 23) (.tmp 28) _ _ rfl _ _ rfl rfl _ _ H31.out ?_
    refine hK.out _ _ (HS.out _ HZ3.out) (fun hHeld=>?_)
    clear hK K
    refine wpAnyH_ready (rs:=[14]) (by kernel_rfl) (by simp) ?_
    refine AllReadyH.cons rfl (fun K hK=>?_) AllReadyH.nil
    refine Lib.wp_append_run _ (.tmp 29) (.tmp 36) _ _ rfl _ _ rfl rfl _ _ H32.out ?_
    refine hK.out _ _ (HS.out _ HF3.out.bel) (fun hHeld=>?_)
    clear hK K
    refine wpAnyH_take (i:=15) (v:=?vv151) rfl (by kernel_rfl) (by kernel_rfl) (by kernel_rfl) (fun _ _ _ h=>h) (Or.inl ⟨by rfl,?hy151⟩) (by assumption) ?rest151
    case hy151=>(intro wx hSw; (try dsimp only at hSw); go_simp; try (with_reducible rfl))
    simp only [Act.put,zA,zB,zC,zD,zE,zF]
    refine wpAnyH_done (by kernel_rfl) ?_ _
    go_wp2_with fail
    go_ret
    rw [HR.out]
    exact ⟨ta,tc,by rw [List.length_append,List.length_singleton,<-HNL.out]; rfl,HF3.out.gin,HF3.out.cap,HBD.out.trans (HF3.out.bel.mono HBD.out.size)⟩
  ·by_cases c2':0 < xl/\0 < yl/\yo + yl=xo
   ·obtain ⟨g1,g2,g3⟩:=c2'
    obtain ⟨s2,hs2e⟩:∃ s2,s2=yl + xl:=⟨_,rfl⟩
    have HR:Hid (addO (l' ++ [(⟨yo,yl,yd⟩:Dop)]) ⟨xo,xl,xd⟩=l' ++ [⟨yo,s2,[]⟩]):=hid (by unfold addO; rw [hlast,hdl]; simp only; rw [if_neg (by omega),if_pos ⟨g1,g2,g3⟩,hs2e])
    obtain ⟨zv1,z1,za,zc,z3,H11,H12,HF1,hb1⟩:=opT1 (u:=w1.drew) (A1:=A1) (c1:=c1) ⟨yo,s2,[]⟩ hlt' hnn hnx
    obtain ⟨yv1,y1,ya,yc,y3,H21,H22,HF2,hb2⟩:=opT2 (u:=w1.drew) (A1:=A1) (c1:=c1) ⟨yo,s2,[]⟩ hlt' hnn hnx
    obtain ⟨tv1,t1,ta,tc,t3,H31,H32,HF3,hb3⟩:=opT3 (u:=w1.drew) (A1:=A1) (c1:=c1) ⟨yo,s2,[]⟩ hlt' hnn hnx
    have HZ1:=hid hb1
    have HZ2:=hid hb2
    have HZ3:=hid hb3
    have HA1:Below w1.drew.heap.size w1.drew (w1.drew.alloc (.cells #[] 180)):=(Below.refl _ _).alloc (Nat.le_refl _) _
    have HC1:Below w1.drew.heap.size w1.drew (w1.drew.alloc (.cells (opCs ⟨yo,s2,[]⟩).toArray 180)):=(Below.refl _ _).alloc (Nat.le_refl _) _
    have HA1:=hid HA1
    have HC1:=hid HC1
    have hw5:IntKind.i64.wrap ((yo:Int) + (yl:Int))=(xo:Int):=by rw [wrap_i64 (by omega) (by omega)]; omega
    have hw6:IntKind.i64.wrap ((yl:Int) + (xl:Int))=(s2:Int):=by rw [wrap_i64 (by omega) (by omega)]; omega
    have hx0:¬ xl=0:=by omega
    have hxq:((xl:Int) == 0)=false:=by simp; omega
    have hxl:(0:Int) < (xl:Int):=by omega
    have hyl:(0:Int) < (yl:Int):=by omega
    simp only [opCs] at H11 H12 H21 H22 H31 H32 HC1 ⊢
    clear hs2e
    have HW0:=hid hw0
    have HW1:=hid hw1
    rw [hw1,hw0] at p0 p1 p2 r0 r1 r2
    rw [hw0] at q0 q1 q2
    clear hw0 hw1 hb0 hl hb1 hz0 hlast hdl hnn hm hlen hls h0 hlt' hA1
    go_enter Tryz.func124,Tryz.ntmps124
    go_wp2_with fail
    rw [<-HW0.out,<-HW1.out]
    clear p0 p1 p2 r0 r1 r2 q0 q1 q2
    refine wp_region_held_drew (S:=(fun W=>W.cell? ⟨w.heap.size,0,none⟩=some (.int .i64 (xo:Int))/\W.cell? ⟨w.heap.size,1,none⟩=some (.int .i64 (xl:Int))/\W.cell? ⟨w.heap.size,2,none⟩=some (.string ⟨xd.toArray⟩)/\W.cell? ⟨w.heap.size + 1,0,none⟩=some (.int .i64 (yo:Int))/\W.cell? ⟨w.heap.size + 1,1,none⟩=some (.int .i64 (yl:Int))/\W.cell? ⟨w.heap.size + 1,2,none⟩=some (.string ⟨yd.toArray⟩))) (by kernel_rfl) hs0 (fun hHeld=>?_)
    refine wpAnyH_take (i:=1) (v:=?vv152) rfl (by kernel_rfl) (by kernel_rfl) (by kernel_rfl) (fun _ _ _ h=>h) (Or.inl ⟨by rfl,?hy152⟩) (by assumption) ?rest152
    case hy152=>(intro wx hSw; (try dsimp only at hSw); go_simp; try (with_reducible rfl))
    simp only [Act.put,zA,zB,zC,zD,zE,zF]
    refine wpAnyH_take (i:=2) (v:=?vv153) rfl (by kernel_rfl) (by kernel_rfl) (by kernel_rfl) (fun _ _ _ h=>h) (Or.inl ⟨by rfl,?hy153⟩) (by assumption) ?rest153
    case hy153=>(intro wx hSw; (try dsimp only at hSw); go_simp; try (with_reducible rfl))
    simp only [Act.put,zA,zB,zC,zD,zE,zF]
    refine wpAnyH_take (i:=3) (v:=?vv154) rfl (by kernel_rfl) (by kernel_rfl) (by kernel_rfl) (fun _ _ _ h=>h) (Or.inl ⟨by rfl,?hy154⟩) (by assumption) ?rest154
    case hy154=>(intro wx hSw; (try dsimp only at hSw); go_simp; try (with_reducible rfl))
    simp only [Act.put,zA,zB,zC,zD,zE,zF]
    refine wpAnyH_take (i:=4) (v:=?vv155) rfl (by kernel_rfl) (by kernel_rfl) (by kernel_rfl) (fun _ _ _ h=>h) (Or.inl ⟨by rfl,?hy155⟩) (by assumption) ?rest155
    case hy155=>(intro wx hSw; (try dsimp only at hSw); go_simp; try (with_reducible rfl))
    simp only [Act.put,zA,zB,zC,zD,zE,zF]
    refine wpAnyH_take (i:=5) (v:=?vv156) rfl (by kernel_rfl) (by kernel_rfl) (by kernel_rfl) (fun _ _ _ h=>h) (Or.inl ⟨by rfl,?hy156⟩) (by assumption) ?rest156
    case hy156=>(intro wx hSw; (try dsimp only at hSw); go_simp; try (with_reducible rfl))
    simp only [Act.put,zA,zB,zC,zD,zE,zF]
    refine wpAnyH_take (i:=7) (v:=?vv157) rfl (by kernel_rfl) (by kernel_rfl) (by kernel_rfl) (fun _ _ _ h=>h) (Or.inl ⟨by rfl,?hy157⟩) (by assumption) ?rest157
    case hy157=>(intro wx hSw; (try dsimp only at hSw); go_simp; try (with_reducible rfl))
    simp only [Act.put,zA,zB,zC,zD,zE,zF]
    refine wpAnyH_take (i:=8) (v:=?vv158) rfl (by kernel_rfl) (by kernel_rfl) (by kernel_rfl) (fun _ _ _ h=>h) (Or.inl ⟨by rfl,?hy158⟩) (by assumption) ?rest158
    case hy158=>(intro wx hSw; (try dsimp only at hSw); go_simp; try (with_reducible rfl))
    simp only [Act.put,zA,zB,zC,zD,zE,zF]
    refine wpAnyH_take (i:=9) (v:=?vv159) rfl (by kernel_rfl) (by kernel_rfl) (by kernel_rfl) (fun _ _ _ h=>h) (Or.inl ⟨by rfl,?hy159⟩) (by assumption) ?rest159
    case hy159=>(intro wx hSw; (try dsimp only at hSw); go_simp; try (with_reducible rfl))
    simp only [Act.put,zA,zB,zC,zD,zE,zF]
    refine wpAnyH_take (i:=10) (v:=?vv160) rfl (by kernel_rfl) (by kernel_rfl) (by kernel_rfl) (fun _ _ _ h=>h) (Or.inl ⟨by rfl,?hy160⟩) (by assumption) ?rest160
    case hy160=>(intro wx hSw; (try dsimp only at hSw); go_simp; try (with_reducible rfl))
    simp only [Act.put,zA,zB,zC,zD,zE,zF]
    refine wpAnyH_take (i:=11) (v:=?vv161) rfl (by kernel_rfl) (by kernel_rfl) (by kernel_rfl) (fun _ _ _ h=>h) (Or.inl ⟨by rfl,?hy161⟩) (by assumption) ?rest161
    case hy161=>(intro wx hSw; (try dsimp only at hSw); go_simp; try (with_reducible rfl))
    simp only [Act.put,zA,zB,zC,zD,zE,zF]
    refine wpAnyH_take (i:=12) (v:=?vv162) rfl (by kernel_rfl) (by kernel_rfl) (by kernel_rfl) (fun _ _ _ h=>h) (Or.inl ⟨by rfl,?hy162⟩) (by assumption) ?rest162
    case hy162=>(intro wx hSw; (try dsimp only at hSw); go_simp; try (with_reducible rfl))
    simp only [Act.put,zA,zB,zC,zD,zE,zF]
    refine wpAnyH_take (i:=13) (v:=?vv163) rfl (by kernel_rfl) (by kernel_rfl) (by kernel_rfl) (fun _ _ _ h=>h) (Or.inl ⟨by rfl,?hy163⟩) (by assumption) ?rest163
    case hy163=>(intro wx hSw; (try dsimp only at hSw); go_simp; try (with_reducible rfl))
    simp only [Act.put,zA,zB,zC,zD,zE,zF]
    refine wpAnyH_take (i:=14) (v:=?vv164) rfl (by kernel_rfl) (by kernel_rfl) (by kernel_rfl) (fun _ _ _ h=>h) (Or.inl ⟨by rfl,?hy164⟩) (by assumption) ?rest164
    case hy164=>(intro wx hSw; (try dsimp only at hSw); go_simp; try (with_reducible rfl))
    simp only [Act.put,zA,zB,zC,zD,zE,zF]
    refine wpAnyH_ready (rs:=[0,15]) (by kernel_rfl) (by simp) ?_
    refine AllReadyH.cons rfl (fun K hK=>?_) ?_
    ·go_simp
     refine hK.out _ _ (HS.out _ HA1.out) (fun hHeld=>?_)
     clear hK K
     refine wpAnyH_ready (rs:=[6,15]) (by kernel_rfl) (by simp) ?_
     refine AllReadyH.cons rfl (fun K hK=>?_) ?_
     ·refine Lib.wp_append_run _ (.tmp 56) (.tmp 61) _ _ rfl _ _ rfl rfl _ _ H11.out ?_
      refine hK.out _ _ (HS.out _ HZ1.out) (fun hHeld=>?_)
      clear hK K
      refine wpAnyH_ready (rs:=[15]) (by kernel_rfl) (by simp) ?_
      refine AllReadyH.cons rfl (fun K hK=>?_) AllReadyH.nil
      go_simp
      refine hK.out _ _ (HS.out _ (HZ1.out.alloc HZ1.out.size _)) (fun hHeld=>?_)
      clear hK K
      refine wpAnyH_ready (rs:=[16]) (by kernel_rfl) (by simp) ?_
      refine AllReadyH.cons rfl (fun K hK=>?_) AllReadyH.nil
      refine Lib.wp_append_run _ (.tmp 62) (.tmp 71) _ _ rfl _ _ rfl rfl _ _ H12.out ?_
      refine hK.out _ _ (HS.out _ HF1.out.bel) (fun hHeld=>?_)
      clear hK K
      refine wpAnyH_take (i:=17) (v:=?vv165) rfl (by kernel_rfl) (by kernel_rfl) (by kernel_rfl) (fun _ _ _ h=>h) (Or.inl ⟨by rfl,?hy165⟩) (by assumption) ?rest165
      case hy165=>(intro wx hSw; (try dsimp only at hSw); go_simp; try (with_reducible rfl))
      simp only [Act.put,zA,zB,zC,zD,zE,zF]
      refine wpAnyH_done (by kernel_rfl) ?_ _
      go_wp2_with fail
      go_ret
      rw [HR.out]
      exact ⟨za,zc,by rw [List.length_append,List.length_singleton,<-HNL.out]; rfl,HF1.out.gin,HF1.out.cap,HBD.out.trans (HF1.out.bel.mono HBD.out.size)⟩
     ·refine AllReadyH.cons rfl (fun K hK=>?_) AllReadyH.nil
      go_simp
      refine hK.out _ _ (HS.out _ (HA1.out.alloc HA1.out.size _)) (fun hHeld=>?_)
      clear hK K
      refine wpAnyH_ready (rs:=[6]) (by kernel_rfl) (by simp) ?_
      refine AllReadyH.cons rfl (fun K hK=>?_) AllReadyH.nil
      refine Lib.wp_append_run _ (.tmp 56) (.tmp 61) _ _ rfl _ _ rfl rfl _ _ H21.out ?_
      refine hK.out _ _ (HS.out _ HZ2.out) (fun hHeld=>?_)
      clear hK K
      refine wpAnyH_ready (rs:=[16]) (by kernel_rfl) (by simp) ?_
      refine AllReadyH.cons rfl (fun K hK=>?_) AllReadyH.nil
      refine Lib.wp_append_run _ (.tmp 62) (.tmp 71) _ _ rfl _ _ rfl rfl _ _ H22.out ?_
      refine hK.out _ _ (HS.out _ HF2.out.bel) (fun hHeld=>?_)
      clear hK K
      refine wpAnyH_take (i:=17) (v:=?vv166) rfl (by kernel_rfl) (by kernel_rfl) (by kernel_rfl) (fun _ _ _ h=>h) (Or.inl ⟨by rfl,?hy166⟩) (by assumption) ?rest166
      case hy166=>(intro wx hSw; (try dsimp only at hSw); go_simp; try (with_reducible rfl))
      simp only [Act.put,zA,zB,zC,zD,zE,zF]
      refine wpAnyH_done (by kernel_rfl) ?_ _
      go_wp2_with fail
      go_ret
      rw [HR.out]
      exact ⟨ya,yc,by rw [List.length_append,List.length_singleton,<-HNL.out]; rfl,HF2.out.gin,HF2.out.cap,HBD.out.trans (HF2.out.bel.mono HBD.out.size)⟩
    ·refine AllReadyH.cons rfl (fun K hK=>?_) AllReadyH.nil
     go_simp
     refine hK.out _ _ (HS.out _ HC1.out) (fun hHeld=>?_)
     clear hK K
     refine wpAnyH_ready (rs:=[0]) (by kernel_rfl) (by simp) ?_
     refine AllReadyH.cons rfl (fun K hK=>?_) AllReadyH.nil
     go_simp
     refine hK.out _ _ (HS.out _ (HC1.out.alloc HC1.out.size _)) (fun hHeld=>?_)
     clear hK K
     refine wpAnyH_ready (rs:=[6]) (by kernel_rfl) (by simp) ?_
     refine AllReadyH.cons rfl (fun K hK=>?_) AllReadyH.nil
     refine Lib.wp_append_run _ (.tmp 56) (.tmp 61) _ _ rfl _ _ rfl rfl _ _ H31.out ?_
     refine hK.out _ _ (HS.out _ HZ3.out) (fun hHeld=>?_)
     clear hK K
     refine wpAnyH_ready (rs:=[16]) (by kernel_rfl) (by simp) ?_
     refine AllReadyH.cons rfl (fun K hK=>?_) AllReadyH.nil
     refine Lib.wp_append_run _ (.tmp 62) (.tmp 71) _ _ rfl _ _ rfl rfl _ _ H32.out ?_
     refine hK.out _ _ (HS.out _ HF3.out.bel) (fun hHeld=>?_)
     clear hK K
     refine wpAnyH_take (i:=17) (v:=?vv167) rfl (by kernel_rfl) (by kernel_rfl) (by kernel_rfl) (fun _ _ _ h=>h) (Or.inl ⟨by rfl,?hy167⟩) (by assumption) ?rest167
     case hy167=>(intro wx hSw; (try dsimp only at hSw); go_simp; try (with_reducible rfl))
     simp only [Act.put,zA,zB,zC,zD,zE,zF]
     refine wpAnyH_done (by kernel_rfl) ?_ _
     go_wp2_with fail
     go_ret
     rw [HR.out]
     exact ⟨ta,tc,by rw [List.length_append,List.length_singleton,<-HNL.out]; rfl,HF3.out.gin,HF3.out.cap,HBD.out.trans (HF3.out.bel.mono HBD.out.size)⟩
   ·have HR:Hid (addO (l' ++ [(⟨yo,yl,yd⟩:Dop)]) ⟨xo,xl,xd⟩=(l' ++ [(⟨yo,yl,yd⟩:Dop)]) ++ [⟨xo,xl,xd⟩]):=hid (by unfold addO; rw [hlast]; simp only; rw [if_neg c1',if_neg c2'])
    have HNL:=HNM
    obtain ⟨zv1,z1,za,zc,z3,H11,H12,HF1,hb1⟩:=opT1 (u:=w1.drew) (A1:=(some ⟨b0,of0,none⟩)) (c1:=c) ⟨xo,xl,xd⟩ HLF.out HNM.out hmx
    obtain ⟨yv1,y1,ya,yc,y3,H21,H22,HF2,hb2⟩:=opT2 (u:=w1.drew) (A1:=(some ⟨b0,of0,none⟩)) (c1:=c) ⟨xo,xl,xd⟩ HLF.out HNM.out hmx
    obtain ⟨tv1,t1,ta,tc,t3,H31,H32,HF3,hb3⟩:=opT3 (u:=w1.drew) (A1:=(some ⟨b0,of0,none⟩)) (c1:=c) ⟨xo,xl,xd⟩ HLF.out HNM.out hmx
    have HZ1:=hid hb1
    have HZ2:=hid hb2
    have HZ3:=hid hb3
    have HA1:Below w1.drew.heap.size w1.drew (w1.drew.alloc (.cells #[] 180)):=(Below.refl _ _).alloc (Nat.le_refl _) _
    have HC1:Below w1.drew.heap.size w1.drew (w1.drew.alloc (.cells (opCs ⟨xo,xl,xd⟩).toArray 180)):=(Below.refl _ _).alloc (Nat.le_refl _) _
    have HA1:=hid HA1
    have HC1:=hid HC1
    simp only [opCs] at H11 H12 H21 H22 H31 H32 HC1 ⊢
    by_cases e1:xl=0
    ·have e2:¬ yl=0:=fun h=>c1' ⟨e1,h⟩
     have e3:((yl:Int) == 0)=false:=by simp; omega
     clear c1' c2'
     subst e1
     replace hw0:w0=w.alloc (.cells #[.int .i64 (xo:Int),.int .i64 0,.string ⟨xd.toArray⟩] 180):=hw0
     replace p1:w1.cell? ⟨w.heap.size,1,none⟩=some (.int .i64 0):=p1
     have HW0:=hid hw0
     have HW1:=hid hw1
     rw [hw1,hw0] at p0 p1 p2 r0 r1 r2
     rw [hw0] at q0 q1 q2
     clear hw0 hw1 hb0 hl hb1 hz0 hlast hdl hnn hm hlen hls h0 hlt' hA1
     go_enter Tryz.func124,Tryz.ntmps124
     go_wp2_with fail
     rw [<-HW0.out,<-HW1.out]
     clear p0 p1 p2 r0 r1 r2 q0 q1 q2
     refine wp_region_held_drew (S:=(fun W=>W.cell? ⟨w.heap.size,0,none⟩=some (.int .i64 (xo:Int))/\W.cell? ⟨w.heap.size,1,none⟩=some (.int .i64 0)/\W.cell? ⟨w.heap.size,2,none⟩=some (.string ⟨xd.toArray⟩)/\W.cell? ⟨w.heap.size + 1,0,none⟩=some (.int .i64 (yo:Int))/\W.cell? ⟨w.heap.size + 1,1,none⟩=some (.int .i64 (yl:Int))/\W.cell? ⟨w.heap.size + 1,2,none⟩=some (.string ⟨yd.toArray⟩))) (by kernel_rfl) hs0 (fun hHeld=>?_)
     refine wpAnyH_take (i:=1) (v:=?vv168) rfl (by kernel_rfl) (by kernel_rfl) (by kernel_rfl) (fun _ _ _ h=>h) (Or.inl ⟨by rfl,?hy168⟩) (by assumption) ?rest168
     case hy168=>(intro wx hSw; (try dsimp only at hSw); go_simp; try (with_reducible rfl))
     simp only [Act.put,zA,zB,zC,zD,zE,zF]
     refine wpAnyH_take (i:=3) (v:=?vv169) rfl (by kernel_rfl) (by kernel_rfl) (by kernel_rfl) (fun _ _ _ h=>h) (Or.inl ⟨by rfl,?hy169⟩) (by assumption) ?rest169
     case hy169=>(intro wx hSw; (try dsimp only at hSw); go_simp; try (with_reducible rfl))
     simp only [Act.put,zA,zB,zC,zD,zE,zF]
     refine wpAnyH_ready (rs:=[0,4]) (by kernel_rfl) (by simp) ?_
     refine AllReadyH.cons rfl (fun K hK=>?_) ?_
     ·go_simp
      refine hK.out _ _ (HS.out _ HA1.out) (fun hHeld=>?_)
      clear hK K
      refine wpAnyH_ready (rs:=[2,4]) (by kernel_rfl) (by simp) ?_
      refine AllReadyH.cons rfl (fun K hK=>?_) ?_
      ·refine Lib.wp_append_run _ (.tmp 73) (.tmp 74) _ _ rfl _ _ rfl rfl _ _ H11.out ?_
       refine hK.out _ _ (HS.out _ HZ1.out) (fun hHeld=>?_)
       clear hK K
       refine wpAnyH_ready (rs:=[4]) (by kernel_rfl) (by simp) ?_
       refine AllReadyH.cons rfl (fun K hK=>?_) AllReadyH.nil
       go_simp
       refine hK.out _ _ (HS.out _ (HZ1.out.alloc HZ1.out.size _)) (fun hHeld=>?_)
       clear hK K
       refine wpAnyH_ready (rs:=[5]) (by kernel_rfl) (by simp) ?_
       refine AllReadyH.cons rfl (fun K hK=>?_) AllReadyH.nil
       refine Lib.wp_append_run _ (.tmp 75) (.tmp 77) _ _ rfl _ _ rfl rfl _ _ H12.out ?_
       refine hK.out _ _ (HS.out _ HF1.out.bel) (fun hHeld=>?_)
       clear hK K
       refine wpAnyH_take (i:=6) (v:=?vv170) rfl (by kernel_rfl) (by kernel_rfl) (by kernel_rfl) (fun _ _ _ h=>h) (Or.inl ⟨by rfl,?hy170⟩) (by assumption) ?rest170
       case hy170=>(intro wx hSw; (try dsimp only at hSw); go_simp; try (with_reducible rfl))
       simp only [Act.put,zA,zB,zC,zD,zE,zF]
       refine wpAnyH_done (by kernel_rfl) ?_ _
       go_wp2_with fail
       go_ret
       rw [HR.out]
       exact ⟨za,zc,by rw [List.length_append,List.length_singleton,<-HNL.out]; rfl,HF1.out.gin,HF1.out.cap,HBD.out.trans (HF1.out.bel.mono HBD.out.size)⟩
      ·refine AllReadyH.cons rfl (fun K hK=>?_) AllReadyH.nil
       go_simp
       refine hK.out _ _ (HS.out _ (HA1.out.alloc HA1.out.size _)) (fun hHeld=>?_)
       clear hK K
       refine wpAnyH_ready (rs:=[2]) (by kernel_rfl) (by simp) ?_
       refine AllReadyH.cons rfl (fun K hK=>?_) AllReadyH.nil
       refine Lib.wp_append_run _ (.tmp 73) (.tmp 74) _ _ rfl _ _ rfl rfl _ _ H21.out ?_
       refine hK.out _ _ (HS.out _ HZ2.out) (fun hHeld=>?_)
       clear hK K
       refine wpAnyH_ready (rs:=[5]) (by kernel_rfl) (by simp) ?_
       refine AllReadyH.cons rfl (fun K hK=>?_) AllReadyH.nil
       refine Lib.wp_append_run _ (.tmp 75) (.tmp 77) _ _ rfl _ _ rfl rfl _ _ H22.out ?_
       refine hK.out _ _ (HS.out _ HF2.out.bel) (fun hHeld=>?_)
       clear hK K
       refine wpAnyH_take (i:=6) (v:=?vv171) rfl (by kernel_rfl) (by kernel_rfl) (by kernel_rfl) (fun _ _ _ h=>h) (Or.inl ⟨by rfl,?hy171⟩) (by assumption) ?rest171
       case hy171=>(intro wx hSw; (try dsimp only at hSw); go_simp; try (with_reducible rfl))
       simp only [Act.put,zA,zB,zC,zD,zE,zF]
       refine wpAnyH_done (by kernel_rfl) ?_ _
       go_wp2_with fail
       go_ret
       rw [HR.out]
       exact ⟨ya,yc,by rw [List.length_append,List.length_singleton,<-HNL.out]; rfl,HF2.out.gin,HF2.out.cap,HBD.out.trans (HF2.out.bel.mono HBD.out.size)⟩
     ·refine AllReadyH.cons rfl (fun K hK=>?_) AllReadyH.nil
      go_simp
      refine hK.out _ _ (HS.out _ HC1.out) (fun hHeld=>?_)
      clear hK K
      refine wpAnyH_ready (rs:=[0]) (by kernel_rfl) (by simp) ?_
      refine AllReadyH.cons rfl (fun K hK=>?_) AllReadyH.nil
      go_simp
      refine hK.out _ _ (HS.out _ (HC1.out.alloc HC1.out.size _)) (fun hHeld=>?_)
      clear hK K
      refine wpAnyH_ready (rs:=[2]) (by kernel_rfl) (by simp) ?_
      refine AllReadyH.cons rfl (fun K hK=>?_) AllReadyH.nil
      refine Lib.wp_append_run _ (.tmp 73) (.tmp 74) _ _ rfl _ _ rfl rfl _ _ H31.out ?_
      refine hK.out _ _ (HS.out _ HZ3.out) (fun hHeld=>?_)
      clear hK K
      refine wpAnyH_ready (rs:=[5]) (by kernel_rfl) (by simp) ?_
      refine AllReadyH.cons rfl (fun K hK=>?_) AllReadyH.nil
      refine Lib.wp_append_run _ (.tmp 75) (.tmp 77) _ _ rfl _ _ rfl rfl _ _ H32.out ?_
      refine hK.out _ _ (HS.out _ HF3.out.bel) (fun hHeld=>?_)
      clear hK K
      refine wpAnyH_take (i:=6) (v:=?vv172) rfl (by kernel_rfl) (by kernel_rfl) (by kernel_rfl) (fun _ _ _ h=>h) (Or.inl ⟨by rfl,?hy172⟩) (by assumption) ?rest172
      case hy172=>(intro wx hSw; (try dsimp only at hSw); go_simp; try (with_reducible rfl))
      simp only [Act.put,zA,zB,zC,zD,zE,zF]
      refine wpAnyH_done (by kernel_rfl) ?_ _
      go_wp2_with fail
      go_ret
      rw [HR.out]
      exact ⟨ta,tc,by rw [List.length_append,List.length_singleton,<-HNL.out]; rfl,HF3.out.gin,HF3.out.cap,HBD.out.trans (HF3.out.bel.mono HBD.out.size)⟩
    ·have e2:((xl:Int) == 0)=false:=by simp; omega
     have hxl:(0:Int) < (xl:Int):=by omega
     by_cases e4:yl=0
     ·clear c1' c2'
      subst e4
      replace hw1:w1=w0.alloc (.cells #[.int .i64 (yo:Int),.int .i64 0,.string ⟨yd.toArray⟩] 180):=hw1
      replace r1:w1.cell? ⟨w.heap.size + 1,1,none⟩=some (.int .i64 0):=r1
      replace q1:w0.cell? ⟨b0,of0 + n * 3 + 1,none⟩=some (.int .i64 0):=q1
      have HW0:=hid hw0
      have HW1:=hid hw1
      rw [hw1,hw0] at p0 p1 p2 r0 r1 r2
      rw [hw0] at q0 q1 q2
      clear hw0 hw1 hb0 hl hb1 hz0 hlast hdl hnn hm hlen hls h0 hlt' hA1
      go_enter Tryz.func124,Tryz.ntmps124
      go_wp2_with fail
      rw [<-HW0.out,<-HW1.out]
      clear p0 p1 p2 r0 r1 r2 q0 q1 q2
      refine wp_region_held_drew (S:=(fun W=>W.cell? ⟨w.heap.size,0,none⟩=some (.int .i64 (xo:Int))/\W.cell? ⟨w.heap.size,1,none⟩=some (.int .i64 (xl:Int))/\W.cell? ⟨w.heap.size,2,none⟩=some (.string ⟨xd.toArray⟩)/\W.cell? ⟨w.heap.size + 1,0,none⟩=some (.int .i64 (yo:Int))/\W.cell? ⟨w.heap.size + 1,1,none⟩=some (.int .i64 0)/\W.cell? ⟨w.heap.size + 1,2,none⟩=some (.string ⟨yd.toArray⟩))) (by kernel_rfl) hs0 (fun hHeld=>?_)
      refine wpAnyH_take (i:=1) (v:=?vv173) rfl (by kernel_rfl) (by kernel_rfl) (by kernel_rfl) (fun _ _ _ h=>h) (Or.inl ⟨by rfl,?hy173⟩) (by assumption) ?rest173
      case hy173=>(intro wx hSw; (try dsimp only at hSw); go_simp; try (with_reducible rfl))
      simp only [Act.put,zA,zB,zC,zD,zE,zF]
      refine wpAnyH_take (i:=3) (v:=?vv174) rfl (by kernel_rfl) (by kernel_rfl) (by kernel_rfl) (fun _ _ _ h=>h) (Or.inl ⟨by rfl,?hy174⟩) (by assumption) ?rest174
      case hy174=>(intro wx hSw; (try dsimp only at hSw); go_simp; try (with_reducible rfl))
      simp only [Act.put,zA,zB,zC,zD,zE,zF]
      refine wpAnyH_ready (rs:=[0,4]) (by kernel_rfl) (by simp) ?_
      refine AllReadyH.cons rfl (fun K hK=>?_) ?_
      ·go_simp
       refine hK.out _ _ (HS.out _ HA1.out) (fun hHeld=>?_)
       clear hK K
       refine wpAnyH_ready (rs:=[2,4]) (by kernel_rfl) (by simp) ?_
       refine AllReadyH.cons rfl (fun K hK=>?_) ?_
       ·refine Lib.wp_append_run _ (.tmp 73) (.tmp 74) _ _ rfl _ _ rfl rfl _ _ H11.out ?_
        refine hK.out _ _ (HS.out _ HZ1.out) (fun hHeld=>?_)
        clear hK K
        refine wpAnyH_ready (rs:=[4]) (by kernel_rfl) (by simp) ?_
        refine AllReadyH.cons rfl (fun K hK=>?_) AllReadyH.nil
        go_simp
        refine hK.out _ _ (HS.out _ (HZ1.out.alloc HZ1.out.size _)) (fun hHeld=>?_)
        clear hK K
        refine wpAnyH_ready (rs:=[5]) (by kernel_rfl) (by simp) ?_
        refine AllReadyH.cons rfl (fun K hK=>?_) AllReadyH.nil
        refine Lib.wp_append_run _ (.tmp 75) (.tmp 77) _ _ rfl _ _ rfl rfl _ _ H12.out ?_
        refine hK.out _ _ (HS.out _ HF1.out.bel) (fun hHeld=>?_)
        clear hK K
        refine wpAnyH_take (i:=6) (v:=?vv175) rfl (by kernel_rfl) (by kernel_rfl) (by kernel_rfl) (fun _ _ _ h=>h) (Or.inl ⟨by rfl,?hy175⟩) (by assumption) ?rest175
        case hy175=>(intro wx hSw; (try dsimp only at hSw); go_simp; try (with_reducible rfl))
        simp only [Act.put,zA,zB,zC,zD,zE,zF]
        refine wpAnyH_done (by kernel_rfl) ?_ _
        go_wp2_with fail
        go_ret
        rw [HR.out]
        exact ⟨za,zc,by rw [List.length_append,List.length_singleton,<-HNL.out]; rfl,HF1.out.gin,HF1.out.cap,HBD.out.trans (HF1.out.bel.mono HBD.out.size)⟩
       ·refine AllReadyH.cons rfl (fun K hK=>?_) AllReadyH.nil
        go_simp
        refine hK.out _ _ (HS.out _ (HA1.out.alloc HA1.out.size _)) (fun hHeld=>?_)
        clear hK K
        refine wpAnyH_ready (rs:=[2]) (by kernel_rfl) (by simp) ?_
        refine AllReadyH.cons rfl (fun K hK=>?_) AllReadyH.nil
        refine Lib.wp_append_run _ (.tmp 73) (.tmp 74) _ _ rfl _ _ rfl rfl _ _ H21.out ?_
        refine hK.out _ _ (HS.out _ HZ2.out) (fun hHeld=>?_)
        clear hK K
        refine wpAnyH_ready (rs:=[5]) (by kernel_rfl) (by simp) ?_
        refine AllReadyH.cons rfl (fun K hK=>?_) AllReadyH.nil
        refine Lib.wp_append_run _ (.tmp 75) (.tmp 77) _ _ rfl _ _ rfl rfl _ _ H22.out ?_
        refine hK.out _ _ (HS.out _ HF2.out.bel) (fun hHeld=>?_)
        clear hK K
        refine wpAnyH_take (i:=6) (v:=?vv176) rfl (by kernel_rfl) (by kernel_rfl) (by kernel_rfl) (fun _ _ _ h=>h) (Or.inl ⟨by rfl,?hy176⟩) (by assumption) ?rest176
        case hy176=>(intro wx hSw; (try dsimp only at hSw); go_simp; try (with_reducible rfl))
        simp only [Act.put,zA,zB,zC,zD,zE,zF]
        refine wpAnyH_done (by kernel_rfl) ?_ _
        go_wp2_with fail
        go_ret
        rw [HR.out]
        exact ⟨ya,yc,by rw [List.length_append,List.length_singleton,<-HNL.out]; rfl,HF2.out.gin,HF2.out.cap,HBD.out.trans (HF2.out.bel.mono HBD.out.size)⟩
      ·refine AllReadyH.cons rfl (fun K hK=>?_) AllReadyH.nil
       go_simp
       refine hK.out _ _ (HS.out _ HC1.out) (fun hHeld=>?_)
       clear hK K
       refine wpAnyH_ready (rs:=[0]) (by kernel_rfl) (by simp) ?_
       refine AllReadyH.cons rfl (fun K hK=>?_) AllReadyH.nil
       go_simp
       refine hK.out _ _ (HS.out _ (HC1.out.alloc HC1.out.size _)) (fun hHeld=>?_)
       clear hK K
       refine wpAnyH_ready (rs:=[2]) (by kernel_rfl) (by simp) ?_
       refine AllReadyH.cons rfl (fun K hK=>?_) AllReadyH.nil
       refine Lib.wp_append_run _ (.tmp 73) (.tmp 74) _ _ rfl _ _ rfl rfl _ _ H31.out ?_
       refine hK.out _ _ (HS.out _ HZ3.out) (fun hHeld=>?_)
       clear hK K
       refine wpAnyH_ready (rs:=[5]) (by kernel_rfl) (by simp) ?_
       refine AllReadyH.cons rfl (fun K hK=>?_) AllReadyH.nil
       refine Lib.wp_append_run _ (.tmp 75) (.tmp 77) _ _ rfl _ _ rfl rfl _ _ H32.out ?_
       refine hK.out _ _ (HS.out _ HF3.out.bel) (fun hHeld=>?_)
       clear hK K
       refine wpAnyH_take (i:=6) (v:=?vv177) rfl (by kernel_rfl) (by kernel_rfl) (by kernel_rfl) (fun _ _ _ h=>h) (Or.inl ⟨by rfl,?hy177⟩) (by assumption) ?rest177
       case hy177=>(intro wx hSw; (try dsimp only at hSw); go_simp; try (with_reducible rfl))
       simp only [Act.put,zA,zB,zC,zD,zE,zF]
       refine wpAnyH_done (by kernel_rfl) ?_ _
       go_wp2_with fail
       go_ret
       rw [HR.out]
       exact ⟨ta,tc,by rw [List.length_append,List.length_singleton,<-HNL.out]; rfl,HF3.out.gin,HF3.out.cap,HBD.out.trans (HF3.out.bel.mono HBD.out.size)⟩
     ·have hyl:(0:Int) < (yl:Int):=by omega
      obtain ⟨s1,hs1e⟩:∃ s1,s1=yo + yl:=⟨_,rfl⟩
      have hw5:IntKind.i64.wrap ((yo:Int) + (yl:Int))=(s1:Int):=by rw [wrap_i64 (by omega) (by omega)]; omega
      have hsn:¬ s1=xo:=fun h=>c2' ⟨by omega,by omega,by omega⟩
      have hsq:((s1:Int) == (xo:Int))=false:=by simp; omega
      clear hs1e c1' c2'
      have HW0:=hid hw0
      have HW1:=hid hw1
      rw [hw1,hw0] at p0 p1 p2 r0 r1 r2
      rw [hw0] at q0 q1 q2
      clear hw0 hw1 hb0 hl hb1 hz0 hlast hdl hnn hm hlen hls h0 hlt' hA1
      go_enter Tryz.func124,Tryz.ntmps124
      go_wp2_with fail
      rw [<-HW0.out,<-HW1.out]
      clear p0 p1 p2 r0 r1 r2 q0 q1 q2
      refine wp_region_held_drew (S:=(fun W=>W.cell? ⟨w.heap.size,0,none⟩=some (.int .i64 (xo:Int))/\W.cell? ⟨w.heap.size,1,none⟩=some (.int .i64 (xl:Int))/\W.cell? ⟨w.heap.size,2,none⟩=some (.string ⟨xd.toArray⟩)/\W.cell? ⟨w.heap.size + 1,0,none⟩=some (.int .i64 (yo:Int))/\W.cell? ⟨w.heap.size + 1,1,none⟩=some (.int .i64 (yl:Int))/\W.cell? ⟨w.heap.size + 1,2,none⟩=some (.string ⟨yd.toArray⟩))) (by kernel_rfl) hs0 (fun hHeld=>?_)
      refine wpAnyH_take (i:=1) (v:=?vv178) rfl (by kernel_rfl) (by kernel_rfl) (by kernel_rfl) (fun _ _ _ h=>h) (Or.inl ⟨by rfl,?hy178⟩) (by assumption) ?rest178
      case hy178=>(intro wx hSw; (try dsimp only at hSw); go_simp; try (with_reducible rfl))
      simp only [Act.put,zA,zB,zC,zD,zE,zF]
      refine wpAnyH_take (i:=3) (v:=?vv179) rfl (by kernel_rfl) (by kernel_rfl) (by kernel_rfl) (fun _ _ _ h=>h) (Or.inl ⟨by rfl,?hy179⟩) (by assumption) ?rest179
      case hy179=>(intro wx hSw; (try dsimp only at hSw); go_simp; try (with_reducible rfl))
      simp only [Act.put,zA,zB,zC,zD,zE,zF]
      refine wpAnyH_ready (rs:=[0,4]) (by kernel_rfl) (by simp) ?_
      refine AllReadyH.cons rfl (fun K hK=>?_) ?_
      ·go_simp
       refine hK.out _ _ (HS.out _ HA1.out) (fun hHeld=>?_)
       clear hK K
       refine wpAnyH_ready (rs:=[2,4]) (by kernel_rfl) (by simp) ?_
       refine AllReadyH.cons rfl (fun K hK=>?_) ?_
       ·refine Lib.wp_append_run _ (.tmp 73) (.tmp 74) _ _ rfl _ _ rfl rfl _ _ H11.out ?_
        refine hK.out _ _ (HS.out _ HZ1.out) (fun hHeld=>?_)
        clear hK K
        refine wpAnyH_ready (rs:=[4]) (by kernel_rfl) (by simp) ?_
        refine AllReadyH.cons rfl (fun K hK=>?_) AllReadyH.nil
        go_simp
        refine hK.out _ _ (HS.out _ (HZ1.out.alloc HZ1.out.size _)) (fun hHeld=>?_)
        clear hK K
        refine wpAnyH_ready (rs:=[5]) (by kernel_rfl) (by simp) ?_
        refine AllReadyH.cons rfl (fun K hK=>?_) AllReadyH.nil
        refine Lib.wp_append_run _ (.tmp 75) (.tmp 77) _ _ rfl _ _ rfl rfl _ _ H12.out ?_
        refine hK.out _ _ (HS.out _ HF1.out.bel) (fun hHeld=>?_)
        clear hK K
        refine wpAnyH_take (i:=6) (v:=?vv180) rfl (by kernel_rfl) (by kernel_rfl) (by kernel_rfl) (fun _ _ _ h=>h) (Or.inl ⟨by rfl,?hy180⟩) (by assumption) ?rest180
        case hy180=>(intro wx hSw; (try dsimp only at hSw); go_simp; try (with_reducible rfl))
        simp only [Act.put,zA,zB,zC,zD,zE,zF]
        refine wpAnyH_done (by kernel_rfl) ?_ _
        go_wp2_with fail
        go_ret
        rw [HR.out]
        exact ⟨za,zc,by rw [List.length_append,List.length_singleton,<-HNL.out]; rfl,HF1.out.gin,HF1.out.cap,HBD.out.trans (HF1.out.bel.mono HBD.out.size)⟩
       ·refine AllReadyH.cons rfl (fun K hK=>?_) AllReadyH.nil
        go_simp
        refine hK.out _ _ (HS.out _ (HA1.out.alloc HA1.out.size _)) (fun hHeld=>?_)
        clear hK K
        refine wpAnyH_ready (rs:=[2]) (by kernel_rfl) (by simp) ?_
        refine AllReadyH.cons rfl (fun K hK=>?_) AllReadyH.nil
        refine Lib.wp_append_run _ (.tmp 73) (.tmp 74) _ _ rfl _ _ rfl rfl _ _ H21.out ?_
        refine hK.out _ _ (HS.out _ HZ2.out) (fun hHeld=>?_)
        clear hK K
        refine wpAnyH_ready (rs:=[5]) (by kernel_rfl) (by simp) ?_
        refine AllReadyH.cons rfl (fun K hK=>?_) AllReadyH.nil
        refine Lib.wp_append_run _ (.tmp 75) (.tmp 77) _ _ rfl _ _ rfl rfl _ _ H22.out ?_
        refine hK.out _ _ (HS.out _ HF2.out.bel) (fun hHeld=>?_)
        clear hK K
        refine wpAnyH_take (i:=6) (v:=?vv181) rfl (by kernel_rfl) (by kernel_rfl) (by kernel_rfl) (fun _ _ _ h=>h) (Or.inl ⟨by rfl,?hy181⟩) (by assumption) ?rest181
        case hy181=>(intro wx hSw; (try dsimp only at hSw); go_simp; try (with_reducible rfl))
        simp only [Act.put,zA,zB,zC,zD,zE,zF]
        refine wpAnyH_done (by kernel_rfl) ?_ _
        go_wp2_with fail
        go_ret
        rw [HR.out]
        exact ⟨ya,yc,by rw [List.length_append,List.length_singleton,<-HNL.out]; rfl,HF2.out.gin,HF2.out.cap,HBD.out.trans (HF2.out.bel.mono HBD.out.size)⟩
      ·refine AllReadyH.cons rfl (fun K hK=>?_) AllReadyH.nil
       go_simp
       refine hK.out _ _ (HS.out _ HC1.out) (fun hHeld=>?_)
       clear hK K
       refine wpAnyH_ready (rs:=[0]) (by kernel_rfl) (by simp) ?_
       refine AllReadyH.cons rfl (fun K hK=>?_) AllReadyH.nil
       go_simp
       refine hK.out _ _ (HS.out _ (HC1.out.alloc HC1.out.size _)) (fun hHeld=>?_)
       clear hK K
       refine wpAnyH_ready (rs:=[2]) (by kernel_rfl) (by simp) ?_
       refine AllReadyH.cons rfl (fun K hK=>?_) AllReadyH.nil
       refine Lib.wp_append_run _ (.tmp 73) (.tmp 74) _ _ rfl _ _ rfl rfl _ _ H31.out ?_
       refine hK.out _ _ (HS.out _ HZ3.out) (fun hHeld=>?_)
       clear hK K
       refine wpAnyH_ready (rs:=[5]) (by kernel_rfl) (by simp) ?_
       refine AllReadyH.cons rfl (fun K hK=>?_) AllReadyH.nil
       refine Lib.wp_append_run _ (.tmp 75) (.tmp 77) _ _ rfl _ _ rfl rfl _ _ H32.out ?_
       refine hK.out _ _ (HS.out _ HF3.out.bel) (fun hHeld=>?_)
       clear hK K
       refine wpAnyH_take (i:=6) (v:=?vv182) rfl (by kernel_rfl) (by kernel_rfl) (by kernel_rfl) (fun _ _ _ h=>h) (Or.inl ⟨by rfl,?hy182⟩) (by assumption) ?rest182
       case hy182=>(intro wx hSw; (try dsimp only at hSw); go_simp; try (with_reducible rfl))
       simp only [Act.put,zA,zB,zC,zD,zE,zF]
       refine wpAnyH_done (by kernel_rfl) ?_ _
       go_wp2_with fail
       go_ret
       rw [HR.out]
       exact ⟨ta,tc,by rw [List.length_append,List.length_singleton,<-HNL.out]; rfl,HF3.out.gin,HF3.out.cap,HBD.out.trans (HF3.out.bel.mono HBD.out.size)⟩
end Go.Proofs.YtijkieiihpiljaaGreat
