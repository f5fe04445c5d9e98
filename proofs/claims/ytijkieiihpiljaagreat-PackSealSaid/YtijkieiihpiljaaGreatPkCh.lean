/- What a row's reading tells of a Change that came in. -/
import Derived.Test.YtijkieiihpiljaaGreatK8
set_option maxRecDepth 100000
set_option maxHeartbeats 16000000
open Go.Lib (hid)
namespace Go.Proofs.YtijkieiihpiljaaGreat
open Go.ChangeShapes Go.WideShapes Go.ChangeAt Go.RowKit Go.Deep
set_option linter.unusedVariables false
section
variable {H:Type} {enc:TypeId × Value->H} {W:World}
theorem open_change {r:Reach} {b0:Nat} {v:Value} {d:DataW H} {p:List MemPlace} (hv:Value.okWide Tryz.prog W r b0 33 v) (h:DataW.Trod enc Tryz.prog W 0 (fun _=>true) true 33 v d p) :
  ∃ x y:Int,v = .agg #[.int .u16 x,.int .u8 y]/\(0<=x/\x<=65535)/\0<=y/\y<=255:=by
 obtain ⟨cs,rfl,hsz⟩:=okWide_struct Tryz.underlying33 hv
 obtain ⟨fuel,hf⟩:=h
 obtain ⟨xs,n,_,_,hl,hxl,hf⟩:=DataW.trod_struct Tryz.underlying33 hf
 rw [show Tryz.prog.cellsOf 33 = 2 by kernel_rfl] at hl
 obtain ⟨l⟩:=cs
 match l,hl with
 | [c0,c1],_=>
  match xs,hxl with
  | [x0,x1],_=>
   obtain ⟨o,e0,_,w0⟩:=DataW.trod_int Tryz.underlying31 (show DataW.trod enc Tryz.prog W 0 (fun _=>true) true n 31 [c0]=some x0 from hf 0 _ rfl)
   obtain ⟨s,e1,_,w1⟩:=DataW.trod_int Tryz.underlying5 (show DataW.trod enc Tryz.prog W 0 (fun _=>true) true n 5 [c1]=some x1 from hf 1 _ rfl)
   cases e0
   cases e1
   refine ⟨o,s,rfl,?_,?_⟩
   ·simp [Lit.wf,IntKind.min,IntKind.max,IntKind.signed,IntKind.bits] at w0
    omega
   ·simp [Lit.wf,IntKind.min,IntKind.max,IntKind.signed,IntKind.bits] at w1
    omega
end
end Go.Proofs.YtijkieiihpiljaaGreat
