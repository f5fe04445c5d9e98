/- slices.Grow and slices.Concat at digests. -/
import Derived.Test.YtfdahmicigpnoaaGreatK10
set_option maxRecDepth 100000
set_option maxHeartbeats 16000000
open Go.Lib (hid)
namespace Go.Proofs.YtfdahmicigpnoaaGreat
open Go.RowKit Go.Shelf
set_option linter.unusedVariables false
structure SlD where
 a:Option Addr
 ds:List (Int × Int)
 c:Nat
def allD (L:List SlD):List (Int × Int):=L.flatMap (·.ds)
theorem allD_take {L:List SlD} {k:Nat} (h:k < L.length):allD (L.take (k + 1))=allD (L.take k) ++ L[k].ds:=by
 unfold allD
 rw [List.take_succ_eq_append_getElem h,List.flatMap_append]
 simp
theorem allD_le (L:List SlD) (k:Nat):(allD (L.take k)).length<=(allD L).length:=by
 have h:allD L=allD (L.take k) ++ allD (L.drop k):=by
  unfold allD
  rw [<-List.flatMap_append,List.take_append_drop]
 rw [h,List.length_append]
 omega
structure SlsD (B:Nat) (W:World) (bb:Nat) (L:List SlD):Prop where
 blk:bb < B
 cell:∀ i (h:i < L.length),W.cell? ⟨bb,i,none⟩=some (.slice L[i].a L[i].ds.length L[i].c)
 dig:∀ i (h:i < L.length),Digs B W L[i].a L[i].ds
theorem SlsD.ahead {w W:World} {bb:Nat} {L:List SlD} (h:SlsD w.heap.size w bb L) (hb:Below w.heap.size w W):SlsD W.heap.size W bb L:=
 ⟨Nat.lt_of_lt_of_le h.blk hb.size,fun i hi=>(hb.cell (p:=⟨bb,i,none⟩) h.blk).trans (h.cell i hi),fun i hi=>(h.dig i hi).ahead hb⟩
theorem growD_any (n:Nat) (w:World) (hn:(n:Int)<=1000000000) :
  Calls Tryz.prog 156 #[.slice none 0 0,.int .i64 n] w fun e w'=>∃ a cap,e = .returned (.slice a 0 cap)/\w'.ownsRow w.heap.size 41 2 (.slice a 0 cap) 0 []/\Below w.heap.size w w':=by
 by_cases h1:n=0
 ·subst h1
  go_enter Tryz.func156,Tryz.ntmps156
  go_wp2_with fail
  go_ret
  exact ⟨none,0,rfl,World.ownsRow_nil _ _ _ _,Below.refl _ _⟩
 ·obtain ⟨i0,hi,hz0,hz1,hz2⟩:=info_parts infoDig
  obtain ⟨G,cur,hr,hG0,hG1,hcs⟩:∃ (G:Nat) (cur:Array Value),(∀ ty,(Builtin.append_ #[24,3] ty #[.slice none 0 0,.int .i64 n]).run Tryz.prog w = .ok (.slice (some ⟨w.heap.size,0,none⟩) n G) (w.drew.alloc (.cells cur 41)))/\n<=G/\G<=maxLen/\cur.size=G * 2:=by
   refine ⟨grownCap w (0 + n) 0 41,([]:List Value).toArray ++ Builtin.zeroCells (Value.agg #[.int .u64 0,.int .u64 0]).cells n ++ Builtin.zeroCells (Value.agg #[.int .u64 0,.int .u64 0]).cells (grownCap w (0 + n) 0 41 - (0 + n)),fun ty=>?_,?_,?_,?_⟩
   ·have:=Lib.run_append_grow_zeros (P:=Tryz.prog) w 24 3 ty 41 i0 _ .i64 .i64 Tryz.underlying24 Tryz.underlying3 hi hz0 none 0 0 [] (run_firstCells_none w.drew i0.size 0 0 0) n (by omega) (by omega) (by omega) (by omega) (by rw [hz2]; omega) (growslice_fits (by omega) (by rw [hz2]; omega))
    rw [Nat.zero_add] at this ⊢
    exact this
   ·have:=grownCap_ge w (0 + n) 0 41; omega
   ·exact grownCap_le_maxLen w (0 + n) 0 41 (by unfold maxLen; omega)
   ·have:=grownCap_ge w (0 + n) 0 41
    generalize grownCap w (0 + n) 0 41 = G at this ⊢
    rw [Nat.zero_add] at this ⊢
    simp only [Array.size_append,size_zeroCells]
    simp [Value.cells]
    omega
  have HCS:=hid hcs
  have HG1:=hid hG1
  unfold maxLen at hG1
  clear hz0 hz1 hz2 hi hcs
  go_enter Tryz.func156,Tryz.ntmps156
  go_wp2_with (at_builtin; refine Lib.wpList_append_run _ rfl _ _ _ _ rfl _ _ rfl rfl _ _ (hr _) ?_)
  go_ret
  exact ⟨_,_,rfl,World.ownsRow_made (w:=w.drew) (base:=w.heap.size) (size:=2) cur G (Nat.le_refl _) HG1.out HCS.out,(Below.refl _ w).drew.alloc (Nat.le_refl _) _⟩
theorem concatD_any (bb cc:Nat) (L:List SlD) (w:World) (hL:SlsD w.heap.size w bb L) (hn:((allD L).length:Int)<=1000000) (hl:(L.length:Int)<=1000) :
  Calls Tryz.prog 89 #[.slice (some ⟨bb,0,none⟩) L.length cc] w (GotDs w (allD L)):=by
 have HL:=hid hL
 have HG:=hid (fun W=>growD_any (allD L).length W (by omega))
 have HT:=hid (fun k (h:k < L.length)=>allD_take h)
 have HLE:=hid (allD_le L)
 obtain ⟨T,hT⟩:∃ T,T=(allD L).length:=⟨_,rfl⟩
 rw [<-hT] at HG hn
 have HTT:=hid hT
 obtain ⟨n,hnn⟩:∃ n,n=L.length:=⟨_,rfl⟩
 have HN:=hid hnn
 rw [<-hnn] at hl ⊢
 clear hL hT hnn
 go_enter Tryz.func89,Tryz.ntmps89
 go_wp2_with fail
 go_loop [3,11] (fun s i=>∃ k t:Nat,k<=n/\i = .int .i64 k/\s = .int .i64 t/\t<=T/\Hid (t=(allD (L.take k)).length)) (fun _ i=>n - (intOf i).toNat)
 case atStart=>exact ⟨0,0,by omega,rfl,rfl,by omega,hid rfl⟩
 case round=>
  obtain ⟨k,t,hk,rfl,rfl,ht,HK⟩:=hrel
  by_cases hlt:k < n
  ·have h1:k < L.length:=by have:=HN.out; omega
   have c0:=HL.out.cell k h1
   have hle:t + L[k].ds.length<=T:=by
    have a1:=HLE.out (k + 1)
    have a2:=HT.out k h1
    rw [a2,List.length_append,<-HK.out,<-HTT.out] at a1
    exact a1
   have HK2:Hid (t + L[k].ds.length=(allD (L.take (k + 1))).length):=hid (by rw [HT.out k h1,List.length_append,<-HK.out])
   generalize L[k]=S at c0 hle HK2
   obtain ⟨sa,sx,sc⟩:=S
   simp only at c0 hle HK2
   generalize sx.length=m at c0 hle HK2
   go_wp2_with fail
   go_round
   case rel=>exact ⟨k + 1,t + m,by omega,by go_num,by go_num,by omega,HK2⟩
   case measure=>simp [intOf]; omega
  ·obtain rfl:n=k:=by omega
   obtain rfl:T=t:=by rw [HK.out,HTT.out,List.take_of_length_le (by have:=HN.out; omega)]
   clear HK hlt hk ht
   go_wp2_with fail
   have hx:=HG.out w
   (with_reducible refine hx.mono ?_)
   clear hx HG
   rintro e w1 ⟨g,cap,rfl,hown,hb⟩
   have HO:=hid hown
   have HB:=hid hb
   clear hown hb
   go_wp2_with fail
   go_loopw [6,27] (fun v i wr=>∃ (k:Nat),k<=n/\i = .int .i64 k/\Hid (wr.ownsRow w.heap.size 41 2 v (allD (L.take k)).length (dcells (allD (L.take k))))/\Hid (Below w.heap.size w wr)) (fun _ i _=>n - (intOf i).toNat)
   case atStart=>exact ⟨0,by omega,rfl,HO,HB⟩
   case round=>
    clear HO HB
    obtain ⟨k,hk,rfl,HO,HB⟩:=hrel
    have hws:=HB.out.size
    by_cases hlt:k < n
    ·have h1:k < L.length:=by have:=HN.out; omega
     have hSl:=HL.out.ahead HB.out
     have c0:=hSl.cell k h1
     have hle:(allD (L.take k)).length + L[k].ds.length<=T:=by
      have a1:=HLE.out (k + 1)
      have a2:=HT.out k h1
      rw [a2,List.length_append,<-HTT.out] at a1
      exact a1
     obtain ⟨av,cv,rfl,hcap⟩:=ownsRow_sliceN HO.out
     obtain ⟨v',W',hrun,hown',hg',hat'⟩:=append_digs wr w.heap.size 24 _ _ HO.out L[k].a L[k].ds L[k].c (hSl.dig k h1) (by omega) hws
     have HO2:Hid (W'.ownsRow w.heap.size 41 2 v' (allD (L.take (k + 1))).length (dcells (allD (L.take (k + 1))))):=hid (by rw [HT.out k h1]; exact hown')
     have HB2:Hid (Below w.heap.size w W'):=hid (below_own HB.out HO.out hg' (Nat.le_refl _))
     have HRUN:=hid hrun
     clear hrun hown' hg' hat' hSl hle
     generalize L[k]=S at c0 HRUN
     obtain ⟨sa,sx,sc⟩:=S
     simp only at c0 HRUN
     go_wp2_with (at_builtin; refine Lib.wpList_append_run _ rfl _ _ _ _ rfl _ _ rfl rfl _ _ HRUN.out ?_)
     go_roundw
     case rel=>exact ⟨k + 1,by omega,by go_num,HO2,HB2⟩
     case measure=>simp [intOf]; omega
    ·obtain ⟨av,cv,rfl,hcap⟩:=ownsRow_sliceN HO.out
     have hf:allD (L.take k)=allD L:=by rw [List.take_of_length_le (by have:=HN.out; omega)]
     rw [hf] at HO ⊢
     clear hf
     go_wp2_with fail
     go_ret
     exact ⟨av,cv,rfl,HO.out,HB.out⟩
end Go.Proofs.YtfdahmicigpnoaaGreat
