/- slices.Collect, SortedFunc, negotiate.sorted. -/
import Derived.Test.YtdeggadmbjkpfaaGreatNeSo
import Derived.Test.YtdeggadmbjkpfaaGreatNeCp
set_option maxRecDepth 100000
set_option maxHeartbeats 16000000
namespace Go.Proofs.YtdeggadmbjkpfaaGreat
open Go.RowKit Go.Shelf
set_option linter.unusedVariables false
theorem collectD_any (Bs:Nat) (pa:Option Addr) (c:Nat) (L:List (Int × Int)) (hL:(L.length:Int) ≤ 900000) (w:World) (hb:BK Bs #[.slice pa L.length c] 24 w) (hd:Digs w.heap.size w pa L) :
  Calls Tryz.prog 101 #[.func (.func 102) #[] #[.pointer (some ⟨Bs,0,none⟩)]] w (GotDs w L):=by
 have HA:=Lib.hid (appSeqD_any Bs pa c L hL w hb hd)
 clear hb hd
 go_enter Tryz.func101,Tryz.ntmps101
 go_wp2_with fail
 (with_reducible refine (HA.out).mono ?_)
 rintro e u ⟨va,vc,rfl,hown,hb⟩
 have HO:=Lib.hid hown
 have HB:=Lib.hid hb
 clear hown hb HA
 generalize hl:L.length=n at HO ⊢
 go_wp2_with fail
 go_ret
 exact ⟨va,vc,by rw [hl]; rfl,by rw [hl]; exact HO.out,HB.out⟩
theorem sortedFD_any (Bs:Nat) (pa:Option Addr) (c:Nat) (L:List (Int × Int)) (hL:(L.length:Int) ≤ 900000) (w:World) (hb:BK Bs #[.slice pa L.length c] 24 w) (hd:Digs w.heap.size w pa L) :
  Calls Tryz.prog 68 #[.func (.func 102) #[] #[.pointer (some ⟨Bs,0,none⟩)],.func (.func 70) #[] #[]] w (GotDs w (sortS L)):=by
 have HA:=Lib.hid (collectD_any Bs pa c L hL w hb hd)
 clear hb hd
 go_enter Tryz.func68,Tryz.ntmps68
 go_wp2_with fail
 (with_reducible refine (HA.out).mono ?_)
 rintro e u ⟨va,vc,rfl,hown,hb⟩
 have HO:=Lib.hid hown
 have HB:=Lib.hid hb
 have HSO:=Lib.hid (sortD_any va L vc u hown (by omega))
 have hsl:=sortS_length L
 clear hown hb HA
 generalize hl:L.length=n at HO HSO hsl ⊢
 go_wp2_with fail
 (with_reducible refine (HSO.out).mono ?_)
 rintro e u2 ⟨rfl,hown,hg⟩
 have HF:Hid (GotDs w (sortS L) (.returned (.slice va n vc)) u2):=Lib.hid ⟨va,vc,by rw [hsl],by rw [hsl]; exact hown,HB.out.grown hg HB.out.size (fun k e=>(HO.out.lt k e).1)⟩
 clear hown hg hsl
 go_wp2_with fail
 go_ret
 exact HF.out
theorem sortedN_any (a:Option Addr) (c:Nat) (L:List (Int × Int)) (hL:(L.length:Int) ≤ 900000) (w:World) (hd:Digs w.heap.size w a L) :
  Calls Tryz.prog 38 #[.slice a L.length c] w (GotDs w (L.foldl withS [])):=by
 obtain ⟨n,hn⟩:∃ n,n=L.length:=⟨_,rfl⟩
 have HV:=Lib.hid (valsD_any a n c w)
 obtain ⟨u,hu⟩:∃ u,u=w.alloc (.cells #[.slice a n c] 24):=⟨_,rfl⟩
 have hbu:Below w.heap.size w u:=by rw [hu]; exact (Below.refl _ _).alloc (Nat.le_refl _) _
 have HS:=Lib.hid (sortedFD_any w.heap.size a c L hL u (by rw [hu,← hn]; exact BK.new _ _ _) (hd.ahead hbu))
 have HC:=Lib.hid (comp_sort L)
 have hsl:=sortS_length L
 have HBU:=Lib.hid hbu
 rw [← hn] at hsl hL ⊢
 clear hd hbu hn
 generalize sortS L=s at HS HC hsl
 go_enter Tryz.func38,Tryz.ntmps38
 go_wp2_with fail
 (with_reducible refine (HV.out).mono ?_)
 rintro e u' ⟨rfl,hu'⟩
 rw [← hu] at hu'
 subst hu'
 clear HV hu
 go_wp2_with fail
 (with_reducible refine (HS.out).mono ?_)
 rintro e u2 ⟨va,vc,rfl,hown,hb⟩
 have HB2:=Lib.hid (HBU.out.trans (hb.mono HBU.out.size))
 have HCP:=Lib.hid (compactD_any va vc s (by omega) u2 hown)
 have HLT:Hid (∀ k,(Value.slice va s.length vc).ownBlock=some k → w.heap.size ≤ k):=Lib.hid (fun k e=>by have:=(hown.lt k e).1; have:=HBU.out.size; omega)
 have hus:=HBU.out.size
 clear hown hb HS HBU
 generalize s.length=m at HCP HLT ⊢
 go_wp2_with fail
 (with_reducible refine (HCP.out).mono ?_)
 rintro e u3 ⟨rfl,hown,hg⟩
 have HF:Hid (GotDs w (L.foldl withS []) (.returned (.slice va (compS s).length vc)) u3):=Lib.hid (by
  rw [← HC.out]
  exact ⟨va,vc,rfl,own_le hown (by omega),HB2.out.grown hg HB2.out.size (fun k e=>HLT.out k e)⟩)
 clear hown hg HCP
 generalize (compS s).length=q at HF ⊢
 go_wp2_with fail
 go_ret
 exact HF.out
end Go.Proofs.YtdeggadmbjkpfaaGreat
