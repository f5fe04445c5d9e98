/- slices.Collect, SortedFunc, negotiate.sorted. -/
import Derived.Test.YtfdahmicigpnoaaGreatNeSo
import Derived.Test.YtfdahmicigpnoaaGreatNeCp
set_option maxRecDepth 100000
set_option maxHeartbeats 16000000
open Go.Lib (hid)
namespace Go.Proofs.YtfdahmicigpnoaaGreat
open Go.RowKit Go.Shelf
set_option linter.unusedVariables false
theorem collectD_any (Bs:Nat) (pa:Option Addr) (c:Nat) (L:List (Int × Int)) (hL:(L.length:Int)<=900000) (w:World) (hb:BK Bs #[.slice pa L.length c] 24 w) (hd:Digs w.heap.size w pa L) :
  Calls Tryz.prog 197 #[.func (.func 198) #[] #[.pointer (some ⟨Bs,0,none⟩)]] w (GotDs w L):=by
 have HA:=hid (appSeqD_any Bs pa c L hL w hb hd)
 clear hb hd
 go_enter Tryz.func197,Tryz.ntmps197
 go_wp2_with fail
 (with_reducible refine (HA.out).mono ?_)
 rintro e u ⟨va,vc,rfl,hown,hb⟩
 have HO:=hid hown
 have HB:=hid hb
 clear hown hb HA
 generalize hl:L.length=n at HO ⊢
 go_wp2_with fail
 go_ret
 exact ⟨va,vc,by rw [hl]; rfl,by rw [hl]; exact HO.out,HB.out⟩
theorem sortedFD_any (Bs:Nat) (pa:Option Addr) (c:Nat) (L:List (Int × Int)) (hL:(L.length:Int)<=900000) (w:World) (hb:BK Bs #[.slice pa L.length c] 24 w) (hd:Digs w.heap.size w pa L) :
  Calls Tryz.prog 140 #[.func (.func 198) #[] #[.pointer (some ⟨Bs,0,none⟩)],.func (.func 75) #[] #[]] w (GotDs w (sortS L)):=by
 have HA:=hid (collectD_any Bs pa c L hL w hb hd)
 clear hb hd
 go_enter Tryz.func140,Tryz.ntmps140
 go_wp2_with fail
 (with_reducible refine (HA.out).mono ?_)
 rintro e u ⟨va,vc,rfl,hown,hb⟩
 have HO:=hid hown
 have HB:=hid hb
 have HSO:=hid (sortD_any va L vc u hown (by omega))
 have hsl:=sortS_length L
 clear hown hb HA
 generalize hl:L.length=n at HO HSO hsl ⊢
 go_wp2_with fail
 (with_reducible refine (HSO.out).mono ?_)
 rintro e u2 ⟨rfl,hown,hg⟩
 have HF:Hid (GotDs w (sortS L) (.returned (.slice va n vc)) u2):=hid ⟨va,vc,by rw [hsl],by rw [hsl]; exact hown,HB.out.grown hg HB.out.size (fun k e=>(HO.out.lt k e).1)⟩
 clear hown hg hsl
 go_wp2_with fail
 go_ret
 exact HF.out
theorem sortedN_any (a:Option Addr) (c:Nat) (L:List (Int × Int)) (hL:(L.length:Int)<=900000) (w:World) (hd:Digs w.heap.size w a L) :
  Calls Tryz.prog 81 #[.slice a L.length c] w (GotDs w (L.foldl withS [])):=by
 obtain ⟨n,hn⟩:∃ n,n=L.length:=⟨_,rfl⟩
 have HV:=hid (valsD_any a n c w)
 obtain ⟨u,hu⟩:∃ u,u=w.alloc (.cells #[.slice a n c] 24):=⟨_,rfl⟩
 have hbu:Below w.heap.size w u:=by rw [hu]; exact (Below.refl _ _).alloc (Nat.le_refl _) _
 have HS:=hid (sortedFD_any w.heap.size a c L hL u (by rw [hu,<-hn]; exact BK.new _ _ _) (hd.ahead hbu))
 have HC:=hid (comp_sort L)
 have hsl:=sortS_length L
 have HBU:=hid hbu
 rw [<-hn] at hsl hL ⊢
 clear hd hbu hn
 generalize sortS L=s at HS HC hsl
 go_enter Tryz.func81,Tryz.ntmps81
 go_wp2_with fail
 (with_reducible refine (HV.out).mono ?_)
 rintro e u' ⟨rfl,hu'⟩
 rw [<-hu] at hu'
 subst hu'
 clear HV hu
 go_wp2_with fail
 (with_reducible refine (HS.out).mono ?_)
 rintro e u2 ⟨va,vc,rfl,hown,hb⟩
 have HB2:=hid (HBU.out.trans (hb.mono HBU.out.size))
 have HCP:=hid (compactD_any va vc s (by omega) u2 hown)
 have HLT:Hid (∀ k,(Value.slice va s.length vc).ownBlock=some k->w.heap.size<=k):=hid (fun k e=>by have:=(hown.lt k e).1; have:=HBU.out.size; omega)
 have hus:=HBU.out.size
 clear hown hb HS HBU
 generalize s.length=m at HCP HLT ⊢
 go_wp2_with fail
 (with_reducible refine (HCP.out).mono ?_)
 rintro e u3 ⟨rfl,hown,hg⟩
 have HF:Hid (GotDs w (L.foldl withS []) (.returned (.slice va (compS s).length vc)) u3):=hid (by
  rw [<-HC.out]
  exact ⟨va,vc,rfl,own_le hown (by omega),HB2.out.grown hg HB2.out.size (fun k e=>HLT.out k e)⟩)
 clear hown hg HCP
 generalize (compS s).length=q at HF ⊢
 go_wp2_with fail
 go_ret
 exact HF.out
end Go.Proofs.YtfdahmicigpnoaaGreat
