/- commit of the statements about negotiations. -/
import Derived.Test.YtfdahmicigpnoaaGreatNeCq
import Derived.Test.YtfdahmicigpnoaaGreatK9
set_option maxRecDepth 100000
set_option maxHeartbeats 16000000
open Go.Lib (hid)
namespace Go.Proofs.YtfdahmicigpnoaaGreat
open Go.RowKit Go.Shelf Go.Sort
set_option linter.unusedVariables false
def GotC (w:World) (r:List Itm × (Int × Int)) (e:Ending) (w':World):Prop:=∃ a c,e = .returned (.tuple #[.slice a r.1.length c,.agg #[.int .u64 r.2.1,.int .u64 r.2.2]])/\Its w'.heap.size w' a r.1/\r.1.length<=c/\Below w.heap.size w w'
theorem okD_0:OkD (0,0):=⟨⟨by decide,by decide⟩,by decide,by decide⟩
theorem put_okD (xs:List Itm) (o:Ob):OkD (putS xs o).2.1:=by
 unfold putS
 split
 ·exact okD_0
 ·split
  ·exact okD_0
  ·exact digS_ok' _
theorem its_kept2 {W W':World} {a:Option Addr} {xs:List Itm} {row:Option Nat} (h:Its W.heap.size W a xs) (hg:W.grownBy W' row) (hne:0 < xs.length->∀ ad,a=some ad->row ≠ some ad.block):Its W'.heap.size W' a xs:=by
 intro i hi
 obtain ⟨b,off,rfl,hlt,h1,h2,h3⟩:=h i hi
 have hr:row ≠ some b:=hne (by omega) _ rfl
 exact ⟨b,off,rfl,Nat.lt_of_lt_of_le hlt hg.size,(hg.cell_far ⟨b,off + i * 3,none⟩ hlt (fun e=>hr e.symm)).trans h1,(hg.cell_far ⟨b,off + i * 3 + 1,none⟩ hlt (fun e=>hr e.symm)).trans h2,(hg.cell_far ⟨b,off + i * 3 + 2,none⟩ hlt (fun e=>hr e.symm)).trans h3⟩
theorem its_block {w u:World} {a:Option Addr} {xs:List Itm} {ys:List Itm} {b:Option Addr} (h1:Its w.heap.size w b ys) (h2:(a=b/\xs=ys)\/∀ ad,a=some ad->w.heap.size < ad.block):0 < xs.length->∀ ad,a=some ad->some w.heap.size ≠ some ad.block:=fun hl ad e e2=>by
 have e3:=Option.some.inj e2
 rcases h2 with ⟨e4,e5⟩ | h5
 ·obtain ⟨b,off,e6,hlt,_⟩:=h1 0 (by rw [<-e5]; exact hl)
  rw [e4,e6] at e
  cases e
  simp only at e3
  omega
 ·have:=h5 ad e
  omega
theorem commit15_any (a:Option Addr) (xs:List Itm) (c:Nat) (time:Int) (pa:Option Addr) (ps:List (Int × Int)) (pc:Nat) (w:World) (hp:Its w.heap.size w a xs) (hcp:xs.length<=c) (hA:Asc xs) (hxl:(xs.length:Int)<=90000) (hxd:∀ x ∈ xs,(x.data.length:Int)<=65536) (hd:Digs w.heap.size w pa ps) (hc:ps.length<=pc) (hl:(ps.length:Int)<=1000) (hok:∀ d ∈ ps,OkD d) :
  Calls Tryz.prog 77 #[.slice a xs.length c,.int .i64 time,.slice pa ps.length pc] w (GotC w (com15 xs time ps)):=by
 have hb1:Below w.heap.size w (w.alloc (.cells #[.int .u64 0,.int .u64 0] 41)):=(Below.refl _ w).alloc (Nat.le_refl _) _
 have HB1:=hid hb1
 have hot:ObB trO:=⟨by simp [trO],by simp [trO],by simp [trO],by simp [trO],by simp [trO],by simp [trO],by simp [trO],by simp [trO],by simp [trO]⟩
 have HPT:=hid (rput_any a xs c trO none 0 none 0 _ ⟨hp.ahead hb1,hcp,by omega,fun x hx=>by have:=hxd x hx; omega⟩ hA (hot.inW (Ents.nil _ _ _) (Digs.nil _ _ _) (Nat.le_refl _)) ⟨⟨⟨by decide,by decide⟩,by decide,by decide⟩,by simp [trO],by simp [trO]⟩ (by omega))
 have hA1:=put_asc' (o:=trO) hA
 have hl1:=put_size' (o:=trO) hA
 have hd1:=put_dat' (o:=trO) hA hxd
 have hok1:=put_okD xs trO
 obtain ⟨R,hR⟩:∃ R,R=com15 xs time ps:=⟨_,rfl⟩
 rw [<-hR]
 unfold com15 at hR
 generalize putS xs trO=P at HPT hA1 hl1 hd1 hok1 hR
 obtain ⟨ys,T,er⟩:=P
 simp only at HPT hA1 hl1 hd1 hok1 hR
 have hoc:ObB (coO T time ps):=⟨by simp [coO],by simp [coO],by simp [coO],by simp [coO]; omega,fun d h=>⟨(hok d h).1.1,(hok d h).2.1⟩,by simp [coO]; exact ⟨hok1.1.1,hok1.2.1⟩,by simp [coO],by simp [coO],by simp [coO]⟩
 have HPC:=hid (fun W b cc (hi:Its W.heap.size W b ys) (hcc:ys.length<=cc) (hW:Below w.heap.size w W)=>rput_any b ys cc (coO T time ps) none 0 pa pc W ⟨hi,hcc,by omega,fun x hx=>by have:=hd1 x hx; omega⟩ hA1 (hoc.inW (Ents.nil _ _ _) (hd.ahead hW) hc) ⟨hok1,hok,by simp [coO]⟩ (by omega))
 generalize putS ys (coO T time ps)=Q at HPC hR
 obtain ⟨zs,⟨d1,d2⟩,er2⟩:=Q
 simp only at HPC hR
 obtain ⟨t1,t2⟩:=T
 simp only [Ob.val,trO,List.length_nil] at HPT
 simp only [Ob.val,coO,List.length_nil] at HPC
 have HR:=hid hR
 have HITS:=hid hp
 obtain ⟨n,hn⟩:∃ n,n=xs.length:=⟨_,rfl⟩
 obtain ⟨np,hnp⟩:∃ n,n=ps.length:=⟨_,rfl⟩
 rw [<-hn] at HPT ⊢
 rw [<-hnp] at HPC ⊢
 clear hb1 hot hoc hR hn hnp hp hA hd hc hl hok hA1 hl1 hd1 hok1 hxd hxl hcp
 go_enter Tryz.func77,Tryz.ntmps77
 go_wp2_with fail
 (with_reducible refine (HPT.out).mono ?_)
 rintro e u ⟨ra,rc,rfl,hits,hcap,hfr,hb⟩
 simp only at hits hcap hfr ⊢
 have HK1:Hid (BK w.heap.size #[.int .u64 0,.int .u64 0] 41 u):=hid ((BK.new w #[.int .u64 0,.int .u64 0] 41).below hb)
 have hbw:=HB1.out.trans (hb.mono HB1.out.size)
 obtain ⟨v,hv⟩:∃ v,v=u.alloc (.cells #[.int .u64 t1,.int .u64 t2] 41):=⟨_,rfl⟩
 have hbv:Below u.heap.size u v:=by rw [hv]; exact (Below.refl _ _).alloc (Nat.le_refl _) _
 have HBv:=hid (hbw.trans (hbv.mono hbw.size))
 have HKv:=hid (HK1.out.below hbv)
 have HIv:=hid (hits.ahead hbv)
 have HFR:Hid ((ra=a/\ys=xs)\/∀ ad,ra=some ad->w.heap.size < ad.block):=hid (by
  rcases hfr with h | h
  ·exact .inl h
  ·exact .inr (fun ad e=>by have:=h ad e; rw [World.size_alloc] at this; omega))
 have HC2:=hid (HPC.out v ra rc HIv.out hcap HBv.out)
 have huv:u.heap.size < v.heap.size:=by rw [hv]; simp
 have hwu:w.heap.size < u.heap.size:=HK1.out.lt
 generalize ys.length=ny at HC2 ⊢
 rw [hv] at HC2
 have HV:=hid hv
 clear hits hcap hfr hb hbw hv hbv HPT HPC HK1 HB1
 go_wp2_with fail
 (with_reducible refine (HC2.out).mono ?_)
 rintro e u2 ⟨sa,sc,rfl,hits,hcap,hfr,hb⟩
 rw [<-HV.out] at hfr hb
 simp only at hits hcap hfr ⊢
 have HK2:=hid (HKv.out.below hb)
 have hbw:=HBv.out.trans (hb.mono HBv.out.size)
 have hwz:w.heap.size < u2.heap.size:=HK2.out.lt
 have HFIN:Hid (GotC w R (.returned (.tuple #[.slice sa zs.length sc,.agg #[.int .u64 d1,.int .u64 d2]])) (((u2.setCell ⟨w.heap.size,0,none⟩ (.int .u64 d1)).setCell ⟨w.heap.size,1,none⟩ (.int .u64 d2)).alloc (.cells #[.int .u64 d1,.int .u64 d2] 41)).drew):=hid (by
  have hg:u2.grownBy ((u2.setCell ⟨w.heap.size,0,none⟩ (.int .u64 d1)).setCell ⟨w.heap.size,1,none⟩ (.int .u64 d2)) (some w.heap.size):=gown (gset _ _ _ _) _ _
  have hne:0 < zs.length->∀ ad,sa=some ad->some w.heap.size ≠ some ad.block:=by
   refine its_block (u:=u2) HITS.out (ys:=xs) (b:=a) ?_
   rcases hfr with ⟨e1,e2⟩ | h
   ·rcases HFR.out with ⟨e3,e4⟩ | h2
    ·exact .inl ⟨e1.trans e3,e2.trans e4⟩
    ·exact .inr (fun ad e=>h2 ad (by rw [<-e1]; exact e))
   ·exact .inr (fun ad e=>by have:=h ad e; omega)
  have hits2:=its_kept2 hits hg hne
  have hb4:=((hbw.setCell (p:=⟨w.heap.size,0,none⟩) (by simp) (.int .u64 d1)).setCell (p:=⟨w.heap.size,1,none⟩) (by simp) (.int .u64 d2))
  have hb5:=(hb4.alloc hb4.size (.cells #[.int .u64 d1,.int .u64 d2] 41)).drew
  rw [HR.out]
  exact ⟨sa,sc,rfl,hits2.ahead (((Below.refl _ _).alloc (Nat.le_refl _) _).drew),hcap,hb5⟩)
 clear hits hcap hfr hb hbw HC2 HV HBv HKv HIv HFR HITS HR
 generalize zs.length=ln at HFIN ⊢
 obtain ⟨c0,c1⟩:=BK.c2 (show BK _ #[.int .u64 0,.int .u64 0] _ _ from HK2.out)
 obtain ⟨fc0,fc1⟩:=BK.f2 (HK2.out)
 have hne:w.heap.size ≠ u2.heap.size:=by omega
 go_wp2_with fail
 go_region_law (fail)
 all_goals
  go_wp2_with fail
  have hkf:BK w.heap.size #[.int .u64 d1,.int .u64 d2] 41 (((u2.setCell ⟨w.heap.size,0,none⟩ (.int .u64 d1)).setCell ⟨w.heap.size,1,none⟩ (.int .u64 d2)).alloc (.cells #[.int .u64 d1,.int .u64 d2] 41)).drew:=((HK2.out.set 0 (.int .u64 d1)).set 1 (.int .u64 d2)).alloc _
  have g0:((((u2.setCell ⟨w.heap.size,0,none⟩ (.int .u64 d1)).setCell ⟨w.heap.size,1,none⟩ (.int .u64 d2)).alloc (.cells #[.int .u64 d1,.int .u64 d2] 41)).drew).cell? ⟨w.heap.size,0,none⟩=some (.int .u64 d1):=by rw [hkf.cell]; rfl
  have g1:((((u2.setCell ⟨w.heap.size,0,none⟩ (.int .u64 d1)).setCell ⟨w.heap.size,1,none⟩ (.int .u64 d2)).alloc (.cells #[.int .u64 d1,.int .u64 d2] 41)).drew).cell? ⟨w.heap.size,1,none⟩=some (.int .u64 d2):=by rw [hkf.cell]; rfl
  refine bodyPost_ret (v:=.tuple #[.slice sa ln sc,.agg #[.int .u64 d1,.int .u64 d2]]) (by simp [results,Tryz.results77,go_sem,g0,g1]) rfl ?_
  exact HFIN.out
end Go.Proofs.YtfdahmicigpnoaaGreat
