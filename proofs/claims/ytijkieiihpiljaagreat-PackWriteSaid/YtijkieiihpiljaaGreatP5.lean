/- Joined texts: PkN, PkO, PkQ. -/
import Derived.Test.YtijkieiihpiljaaGreatP3
import Derived.Test.YtijkieiihpiljaaGreatK5
import Derived.Test.YtijkieiihpiljaaGreatK9
/- The reference's packs: Seal,and the cursor's number and digest. -/
set_option maxRecDepth 100000
set_option maxHeartbeats 16000000
open Go.Lib (hid)
namespace Go.Proofs.YtijkieiihpiljaaGreat
open Go.RowKit Go.Shelf
set_option linter.unusedVariables false
theorem okD_dig (b:List UInt8):(0<=(digS b).1/\(digS b).1<=18446744073709551615)/\(0<=(digS b).2/\(digS b).2<=18446744073709551615):=by
 have:=digS_ok b
 unfold OkD u64B at this
 omega
theorem seal_any (b:List UInt8) (w:World) (hl:(b.length:Int)<=70368744177664):Calls Tryz.prog 15 #[.string ⟨b.toArray⟩] w fun e w'=>e = .returned (.string ⟨(sealS b).toArray⟩)/\Below w.heap.size w w':=by
 have HC1:=hid (fun W=>refOf_any b W (by omega))
 obtain ⟨h1,h2⟩:=okD_dig b
 have HC2:=hid (fun W=>rbytes_any (digS b).1 (digS b).2 h1 h2 W)
 obtain ⟨T,hT⟩:∃ T,T=beD (digS b):=⟨_,rfl⟩
 have HS:Hid ((⟨b.toArray⟩:ByteArray) ++ ⟨T.toArray⟩=⟨(sealS b).toArray⟩):=hid (by rw [ba_append,hT]; simp [sealS])
 rw [show ((digS b).1,(digS b).2)=digS b from rfl,<-hT] at HC2
 generalize (digS b).1=x at HC1 HC2
 generalize (digS b).2=y at HC1 HC2
 generalize sealS b=R at HS ⊢
 have hTl:T.length=16:=by rw [hT,beD_length]
 have hsb:=ba_len b
 have hsT:=ba_len T
 rw [hTl] at hsT
 clear hT h1 h2
 go_enter Tryz.func15,Tryz.ntmps15
 go_wp2_with fail
 (with_reducible refine (HC1.out _).mono ?_)
 rintro e u1 ⟨rfl,hb1⟩
 go_wp2_with fail
 (with_reducible refine (HC2.out _).mono ?_)
 rintro e u2 ⟨rfl,hb2⟩
 have HB:=hid (hb1.trans (hb2.mono hb1.size))
 have hs:=HS.out
 clear hb1 hb2 HC1 HC2
 go_wp2_with fail
 go_ret
 exact ⟨rfl,HB.out⟩
theorem BK.new3 (W:World) (o o2:Obj) (cs:Array Value) (t:TypeId):BK (W.heap.size + 1 + 1) cs t (((W.alloc o).alloc o2).alloc (.cells cs t)):=by
 have:=BK.new ((W.alloc o).alloc o2) cs t
 rwa [show ((W.alloc o).alloc o2).heap.size=W.heap.size + 1 + 1 by simp] at this
theorem BK.new4 (W:World) (o o2 o3:Obj) (cs:Array Value) (t:TypeId):BK (W.heap.size + 1 + 1 + 1) cs t ((((W.alloc o).alloc o2).alloc o3).alloc (.cells cs t)):=by
 have:=BK.new (((W.alloc o).alloc o2).alloc o3) cs t
 rwa [show (((W.alloc o).alloc o2).alloc o3).heap.size=W.heap.size + 1 + 1 + 1 by simp] at this
structure CE (w W:World) (b:List UInt8) (k:Nat) (bad:Bool) (cs:Array Value):Prop where
 c:BK w.heap.size #[.string ⟨b.toArray⟩,.int .i64 (k:Int),.bool bad] 84 W
 ra:BK (w.heap.size + 1) #[.int .u64 0,.int .u64 0,.int .i64 0,.int .u64 0,.int .u64 0,.int .i64 0,.int .i64 0] 53 W
 rc:BK (w.heap.size + 1 + 1) #[.string ⟨#[]⟩,.int .i64 0,.bool false] 84 W
 x:BK (w.heap.size + 1 + 1 + 1) cs 53 W
 bel:Below w.heap.size w W
section
variable {w W:World} {b:List UInt8} {k:Nat} {bad:Bool} {cs:Array Value}
theorem CE.below (h:CE w W b k bad cs) {W':World} (hb:Below W.heap.size W W'):CE w W' b k bad cs:=⟨h.c.below hb,h.ra.below hb,h.rc.below hb,h.x.below hb,h.bel.trans (hb.mono h.bel.size)⟩
end
theorem GotE.none {w w':World} (er:Int) (a:Option Addr) (c:Nat) (hb:Below w.heap.size w w'):GotE w ([],er) (.returned (.tuple #[.slice a 0 c,.int .i64 er])) w':=⟨a,c,rfl,GIn.nil _ _ _,hb⟩
end Go.Proofs.YtijkieiihpiljaaGreat
