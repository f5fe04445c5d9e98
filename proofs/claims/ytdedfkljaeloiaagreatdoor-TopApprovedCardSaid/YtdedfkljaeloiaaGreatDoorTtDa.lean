/- tree.data at a blob. -/
import Derived.Test.YtdedfkljaeloiaaGreatDoorG1
set_option maxRecDepth 100000
set_option maxHeartbeats 16000000
open Go.Lib (hid)
namespace Go.Proofs.YtdedfkljaeloiaaGreatDoor
open Go.RowKit Go.Shelf
set_option linter.unusedVariables false
theorem data_any (a:Option Addr) (xs:List Itm) (c:Nat) (d1 d2:Int) (D:Pa) (w:World) (hp:PoolIn w a xs c) (ha:Asc xs) (hg:getS xs (d1,d2)=(blobO D,0)) :
  Calls Tryz.prog 130 #[.slice a xs.length c,.agg #[.int .u64 d1,.int .u64 d2]] w fun e w'=>e = .returned (.tuple #[.string ⟨D.toArray⟩,.int .i64 0])/\Below w.heap.size w w':=by
 have HG:=hid (fun W (hW:Below w.heap.size w W)=>get_any a xs c d1 d2 W (hp.below hW) ha)
 rw [hg] at HG
 have hbx:=BK.new w #[.int .u64 d1,.int .u64 d2] 35
 obtain ⟨q0,q1⟩:=hbx.c2
 have HB1:Hid (Below w.heap.size w (w.alloc (.cells #[.int .u64 d1,.int .u64 d2] 35))):=hid ((Below.refl _ w).alloc (Nat.le_refl _) _)
 have HC:=hid (HG.out _ HB1.out)
 clear hp ha hg HG hbx
 generalize xs.length=n at HC ⊢
 go_enter Tryz.func130,Tryz.ntmps130
 go_wp2_with fail
 (with_reducible refine HC.out.mono ?_)
 rintro e u ⟨ea,ec,pa,pc,rfl,hob,hb⟩
 simp only [blobO,Ob.val,List.length_nil]
 have HBU:Hid (Below w.heap.size w u):=hid (HB1.out.trans (hb.mono HB1.out.size))
 clear hob hb HC HB1 q0 q1
 obtain ⟨r0,r1,r2,r3,r4,r5,r6,r7,r8⟩:=(BK.new u #[.int .i64 1,.string ⟨D.toArray⟩,.slice ea 0 ec,.int .u64 0,.int .u64 0,.slice pa 0 pc,.string ⟨#[]⟩,.int .i64 0,.string ⟨#[]⟩] 100).c9
 go_wp2_with fail
 go_ret2
 exact ⟨rfl,HBU.out.alloc HBU.out.size _⟩
end Go.Proofs.YtdedfkljaeloiaaGreatDoor
