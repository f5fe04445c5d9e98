/- What a row's reading tells of talks that came in. -/
import Derived.Test.YtfdahmicigpnoaaGreatNeIn
import Derived.Test.YtfdahmicigpnoaaGreatK8
set_option maxRecDepth 100000
set_option maxHeartbeats 16000000
open Go.Lib (hid)
namespace Go.Proofs.YtfdahmicigpnoaaGreat
open Go.ChangeShapes Go.WideShapes Go.ChangeAt Go.RowKit Go.Deep
set_option linter.unusedVariables false
structure DsCame (W:World) (a:Option Addr) (ds:List (Int × Int)) (c:Nat):Prop where
 dig:Digs W.heap.size W a ds
 cap:ds.length<=c/\c<=maxLen
 ok:∀ d ∈ ds,OkD d
structure TkCame (W:World) (t:Tk) (A:TkA):Prop where
 w:DsCame W A.wa t.want A.wc
 q:DsCame W A.qa t.queue A.qc
 a:DsCame W A.aa t.asked A.ac
 c:DsCame W A.ca t.common A.cc
structure Tlk where
 cl:List Itm
 sv:List Itm
 hd:List (Int × Int)
 wt:List (Int × Int)
 mo:Int
structure TlA where
 ca:Option Addr
 cc:Nat
 sa:Option Addr
 sc:Nat
 ha:Option Addr
 hc:Nat
 wa:Option Addr
 wc:Nat
def Tlk.arr (x:Tlk) (A:TlA):Array Value:=#[.slice A.ca x.cl.length A.cc,.slice A.sa x.sv.length A.sc,.slice A.ha x.hd.length A.hc,.slice A.wa x.wt.length A.wc,.int .u8 x.mo]
section
variable {H:Type} {enc:TypeId × Value->H} {W:World}
theorem trod_dlist {fuel:Nat} {v:Value} {x:DataW H × List MemPlace} (h:DataW.trod enc Tryz.prog W 0 (fun _=>true) true fuel 24 [v]=some x):∃ a ds c,v = .slice a (List.length ds) c/\DsCame W a ds c:=by
 obtain ⟨a,l,c,rfl⟩:=trod_slice_val Tryz.underlying24 h
 obtain ⟨hc,ds,rfl,hd,hok⟩:=open_digs h
 exact ⟨a,ds,c,rfl,hd,hc,fun d hd=>okD_wf (hok d hd).1 (hok d hd).2⟩
theorem trod_talk {fuel:Nat} {cs:List Value} {x:DataW H × List MemPlace} (h:DataW.trod enc Tryz.prog W 0 (fun _=>true) true fuel 67 cs=some x) :
  ∃ (t:Tk) (A:TkA),cs=(t.arr A).toList/\TkCame W t A:=by
 obtain ⟨xs,n,_,_,hl,hxl,hf⟩:=DataW.trod_struct Tryz.underlying67 h
 rw [show Tryz.prog.cellsOf 67 = 5 by kernel_rfl] at hl
 match cs,hl with
 | [c0,c1,c2,c3,c4],_=>
  match xs,hxl with
  | [x0,x1,x2,x3,x4],_=>
   obtain ⟨wa,want,wc,rfl,hw⟩:=trod_dlist (show DataW.trod enc Tryz.prog W 0 (fun _=>true) true n 24 [c0]=some x0 from hf 0 _ rfl)
   obtain ⟨qa,queue,qc,rfl,hq⟩:=trod_dlist (show DataW.trod enc Tryz.prog W 0 (fun _=>true) true n 24 [c1]=some x1 from hf 1 _ rfl)
   obtain ⟨aa,asked,ac,rfl,ha⟩:=trod_dlist (show DataW.trod enc Tryz.prog W 0 (fun _=>true) true n 24 [c2]=some x2 from hf 2 _ rfl)
   obtain ⟨ca,common,cc,rfl,hc⟩:=trod_dlist (show DataW.trod enc Tryz.prog W 0 (fun _=>true) true n 24 [c3]=some x3 from hf 3 _ rfl)
   obtain ⟨b,e4,_⟩:=DataW.trod_bool Tryz.underlying4 (show DataW.trod enc Tryz.prog W 0 (fun _=>true) true n 4 [c4]=some x4 from hf 4 _ rfl)
   cases e4
   exact ⟨⟨want,queue,asked,common,b⟩,⟨wa,wc,qa,qc,aa,ac,ca,cc⟩,rfl,hw,hq,ha,hc⟩
theorem open_talk {r:Reach} {b0:Nat} {v:Value} {d:DataW H} {p:List MemPlace} (hv:Value.okWide Tryz.prog W r b0 67 v) (h:DataW.Trod enc Tryz.prog W 0 (fun _=>true) true 67 v d p) :
  ∃ (t:Tk) (A:TkA),v=t.val A/\TkCame W t A:=by
 obtain ⟨cs,rfl,hsz⟩:=okWide_struct Tryz.underlying67 hv
 obtain ⟨fuel,hf⟩:=h
 obtain ⟨t,A,hcs,hc⟩:=trod_talk hf
 refine ⟨t,A,?_,hc⟩
 have hcs:cs.toList=(t.arr A).toList:=hcs
 rw [Tk.val,Array.toList_inj.1 hcs]
end
end Go.Proofs.YtfdahmicigpnoaaGreat
