/- Joined texts: PoMp, PoLk, PoEq, PoSo, PoRs, PoRe, PoAw, PoO, PoSm, PoGr, PoKe, PoRf. -/
import Derived.Test.YtfdahmicigpnoaaGreatK4
import Derived.DeepKeys4
import Derived.Maps.OwnSet
import Derived.Maps.Views
import Derived.Test.YtfdahmicigpnoaaGreatPoSl
import Derived.ProofKit
import Derived.OpenShut
import Derived.ShutString
import Derived.Deep.Slices
import Derived.Deep.Fields
import Derived.Deep.RegionWith
/- A map from digests to bools,as a set. -/
set_option maxRecDepth 100000
set_option maxHeartbeats 16000000
open Go.Lib (hid)
namespace Go.Proofs.YtfdahmicigpnoaaGreat
open Go.RowKit Go.Shelf
set_option linter.unusedVariables false
theorem laidOutD:laidOutB Tryz.prog=true:=by kernel_rfl
theorem rowD:(41:TypeId) < Tryz.prog.types.size:=of_decide_eq_true (by kernel_rfl)
theorem wideD:(match Tryz.prog.underlying 41 with | some (.array _ _) | some (.struct _)=>true | _=>false)=true:=by rw [Tryz.underlying41]
theorem lawD:Maps.Keyed Tryz.prog 41:=Maps.Keyed.of_law (deep_law_laid laidOutD (m:=2) (by omega) rowD (by kernel_rfl) wideD)
theorem keyTD:Tryz.prog.keyType 41 = true:=by kernel_rfl
theorem cellsD:Tryz.prog.cellsOf 41 = 2:=by kernel_rfl
theorem typesD:∃ m,Tryz.prog.types.size + 1=m + 2:=⟨Tryz.prog.types.size - 1,by have:=of_decide_eq_true (p:=1<=Tryz.prog.types.size) (by kernel_rfl); omega⟩
abbrev dval (d:Int × Int):Value:=.agg #[.int .u64 d.1,.int .u64 d.2]
noncomputable def keyL (d:Int × Int):Lit:=(keyOf Tryz.prog 41 (dval d)).getD .nil
theorem wf_u64 {x:Int} (h:u64B x):(Lit.int .u64 x).wf=true:=by
 unfold u64B at h
 simp [Lit.wf,IntKind.min,IntKind.max,IntKind.signed,IntKind.bits]
 omega
theorem keyL_some {d:Int × Int} (h:OkD d):keyOf Tryz.prog 41 (dval d)=some (keyL d):=by
 have:∃ l,keyOf Tryz.prog 41 (dval d)=some l:=by
  obtain ⟨m,hm⟩:=typesD
  unfold keyOf
  rw [Tryz.underlying41]
  simp only [keyTD,Value.formed,Tryz.underlying41,cellsD,hm]
  simp [Program.keyLits,Tryz.underlying41,Tryz.underlying39,cellsD,cellsU64,wf_u64 h.1,wf_u64 h.2,Value.cells,List.range_succ]
 obtain ⟨l,hl⟩:=this
 unfold keyL
 rw [hl]; rfl
theorem keyL_inj {d d':Int × Int} (h:OkD d) (h':OkD d') (e:keyL d=keyL d'):d=d':=by
 have h1:=keyL_some h
 have h2:=keyL_some h'
 rw [<-e] at h2
 have:=lawD.inj h1 h2
 injection this with this
 injection this with this
 simp at this
 exact Prod.ext this.1 this.2
def MapD (b n:Nat) (M:Int × Int->Bool) (W:World):Prop:=
 ∃ D:DataW Unit,W.ownsMap Tryz.prog 41 (plainElem Tryz.prog 4) b n D/\∀ d,OkD d->D.atKey (keyL d) (.lit (.bool false)) = .lit (.bool (M d))
theorem MapD.made (W:World):MapD W.heap.size 0 (fun _=>false) (W.alloc (.map #[] 0)):=⟨.map [],World.ownsMap_made _ _ _ _,fun d _=>WideAt.atKey_none _ (fun p hp=>by simp at hp)⟩
theorem MapD.lt {b n:Nat} {M:Int × Int->Bool} {W:World} (h:MapD b n M W):b < W.heap.size:=by obtain ⟨D,h1,_⟩:=h; exact h1.lt
theorem MapD.kept {b n:Nat} {M:Int × Int->Bool} {W W':World} {row:Option Nat} (h:MapD b n M W) (hg:W.grownBy W' row) (hne:some b ≠ row):MapD b n M W':=by obtain ⟨D,h1,h2⟩:=h; exact ⟨D,h1.kept hg hne,h2⟩
theorem MapD.alloc {b n:Nat} {M:Int × Int->Bool} {W:World} (h:MapD b n M W) (o:Obj):MapD b n M (W.alloc o):=by obtain ⟨D,h1,h2⟩:=h; exact ⟨D,h1.alloc o,h2⟩
theorem MapD.below {b n:Nat} {M:Int × Int->Bool} {W W':World} (h:MapD b n M W) (hb:Below W.heap.size W W'):MapD b n M W':=h.kept (row:=none) ⟨hb.os,hb.tape,hb.output,hb.size,fun k hk _=>hb.block k hk⟩ (by simp)
theorem zeroBool (W:World):(zeroValue 4).run Tryz.prog W = .ok (.bool false) W:=by kernel_rfl
theorem plainElem_bool_inv {v:Value} {z:DataW Unit × List MemPlace} (h:plainElem Tryz.prog 4 v=some z):∃ a,v = .bool a/\z=(.lit (.bool a),[]):=by
 unfold plainElem at h
 rw [Tryz.underlying4] at h
 cases v <;> simp at h
 exact ⟨_,rfl,h.symm⟩
theorem MapD.look {b n:Nat} {M:Int × Int->Bool} {W:World} (h:MapD b n M W) {x y:Int} (hd:OkD (x,y)):(Instr.lookup 83 (.map (some b)) (.agg #[.int .u64 x,.int .u64 y]) false).run Tryz.prog W = .ok (.bool (M (x,y))) W:=by
 obtain ⟨D,h1,h2⟩:=h
 obtain ⟨v,ps,hrun,hv⟩:=h1.lookup lawD Tryz.underlying83 (zeroBool W) (plainElem_bool (H:=Unit) Tryz.underlying4 false) (keyL_some hd)
 obtain ⟨a,rfl,hz⟩:=plainElem_bool_inv hv
 rw [h2 _ hd] at hz
 simp only [Prod.mk.injEq] at hz
 injection hz.1 with hz
 injection hz with hz
 rw [hrun,hz]
theorem MapD.put {b n:Nat} {M:Int × Int->Bool} {W:World} (h:MapD b n M W) {x y:Int} (hd:OkD (x,y)) (hn:(n:Int)<=1000000000) :
  ∃ W',(Instr.mapUpdate 83 (.map (some b)) (.agg #[.int .u64 x,.int .u64 y]) (.bool true)).run Tryz.prog W = .ok () W'/\MapD b (n + 1) (fun d=>M d || decide (d=(x,y))) W'/\W.grownBy W' (some b):=by
 obtain ⟨D,h1,h2⟩:=h
 obtain ⟨W',hrun,ho,hg⟩:=h1.update lawD Tryz.underlying83 (by unfold maxLen; omega) (keyL_some hd) (plainElem_bool (H:=Unit) Tryz.underlying4 true)
 refine ⟨W',hrun,⟨_,ho,fun d hd'=>?_⟩,hg⟩
 by_cases e:d=(x,y)
 ·subst e
  rw [Maps.atKey_put_same h1.isMap (lawD.key (keyL_some hd))]
  simp
 ·rw [Maps.atKey_put_other (fun h=>e (keyL_inj hd' hd h)),h2 _ hd']
  simp [e]
theorem OkD_zero:OkD (0,0):=⟨⟨by decide,by decide⟩,by decide,by decide⟩
def linksS (o:Ob):List (Int × Int):=if (encodeS o).2 ≠ 0 then [] else o.ents.map (·.d) ++ (if o.kind=3 then o.tree :: o.pars else [])
def GotDs (w:World) (ds:List (Int × Int)) (e:Ending) (w':World):Prop:=∃ a c,e = .returned (.slice a ds.length c)/\w'.ownsRow w.heap.size 41 2 (.slice a ds.length c) ds.length (dcells ds)/\Below w.heap.size w w'
theorem map_take_succ (es:List Ent) (k:Nat) (h:k < es.length):(es.take (k + 1)).map (·.d)=(es.take k).map (·.d) ++ [es[k].d]:=by
 rw [List.take_succ_eq_append_getElem h,List.map_append]; rfl
theorem append_one {W:World} {base:Nat} {v:Value} {xs:List (Int × Int)} (hown:W.ownsRow base 41 2 v xs.length (dcells xs)) (d1 d2:Int) (hlen:(xs.length:Int)<=1000000) (hbase:base<=W.heap.size) :
  ∃ v' W',(Builtin.append_ #[24,24] 24 #[v,.slice (some ⟨W.heap.size,0,none⟩) 1 1]).run Tryz.prog (W.alloc (.cells #[.int .u64 d1,.int .u64 d2] 41)) = .ok v' W'/\W'.ownsRow base 41 2 v' (xs ++ [(d1,d2)]).length (dcells (xs ++ [(d1,d2)]))/\(W.alloc (.cells #[.int .u64 d1,.int .u64 d2] 41)).grownBy W' v.ownBlock/\(v'.ownBlock=v.ownBlock\/v'.ownBlock=some (W.heap.size + 1)):=by
 have h:=append_digs (W.alloc (.cells #[.int .u64 d1,.int .u64 d2] 41)) base 24 v xs (hown.alloc _) (some ⟨W.heap.size,0,none⟩) [(d1,d2)] 1 (fun i hi=>by
  obtain rfl:i=0:=by simp at hi; omega
  have hk:=BK.new W #[.int .u64 d1,.int .u64 d2] 41
  exact ⟨_,0,rfl,hk.lt,by rw [Nat.zero_mul,hk.cell]; rfl,by rw [Nat.zero_mul,hk.cell]; rfl⟩) (by simp; omega) (by simp; omega)
 simpa using h
theorem links_any (o:Ob) (ea:Option Addr) (ec:Nat) (pa:Option Addr) (pc:Nat) (w:World) (h:ObIn w o ea ec pa pc) (hb:ObB o) :
  Calls Tryz.prog 190 #[o.val ea ec pa pc] w (GotDs w (linksS o)):=by
 have HC:=hid (fun W (hW:Below w.heap.size w W)=>ocheck_any o ea ec pa pc W (h.below hW))
 obtain ⟨R,hR⟩:∃ R,R=linksS o:=⟨_,rfl⟩
 rw [<-hR]
 unfold linksS at hR
 generalize (encodeS o).2=er at HC hR
 have hel:=hb.elen
 have hpl:=hb.plen
 have HEN:=hid h.ents
 have HPA:=hid h.pars
 clear h hb
 obtain ⟨kind,data,ents,⟨t1,t2⟩,pars,author,time,msg⟩:=o
 simp only [Ob.val] at HC hR hel hpl HEN HPA ⊢
 obtain ⟨ne,hne⟩:∃ ne,ne=ents.length:=⟨_,rfl⟩
 obtain ⟨np,hnp⟩:∃ np,np=pars.length:=⟨_,rfl⟩
 rw [<-hne] at HC hel ⊢
 rw [<-hnp] at HC hpl ⊢
 have HNE:=hid hne
 have HNP:=hid hnp
 clear hne hnp
 obtain ⟨cs,hcs⟩:∃ cs:Array Value,cs = #[.int .i64 kind,.string ⟨data.toArray⟩,.slice ea ne ec,.int .u64 t1,.int .u64 t2,.slice pa np pc,.string ⟨author.toArray⟩,.int .i64 time,.string ⟨msg.toArray⟩]:=⟨_,rfl⟩
 have HX:=hid (HC.out (w.alloc (.cells #[.int .i64 kind,.string ⟨data.toArray⟩,.slice ea ne ec,.int .u64 t1,.int .u64 t2,.slice pa np pc,.string ⟨author.toArray⟩,.int .i64 time,.string ⟨msg.toArray⟩] 56)) ((Below.refl _ w).alloc (Nat.le_refl _) _))
 have HK0:Hid (BK w.heap.size cs 56 (w.alloc (.cells #[.int .i64 kind,.string ⟨data.toArray⟩,.slice ea ne ec,.int .u64 t1,.int .u64 t2,.slice pa np pc,.string ⟨author.toArray⟩,.int .i64 time,.string ⟨msg.toArray⟩] 56))):=hid (by rw [hcs]; exact BK.new _ _ _)
 have HCS:=hid hcs
 clear hcs HC
 by_cases he:er=0
 ·subst he
  rw [if_neg (by simp)] at hR
  have HR:=hid hR
  clear hR
  go_enter Tryz.func190,Tryz.ntmps190
  go_wp2_with fail
  have hx:=HX.out
  (with_reducible refine hx.mono ?_)
  clear hx HX
  rintro e u ⟨rfl,hb⟩
  have HKU:Hid (BK w.heap.size cs 56 u):=hid (HK0.out.below hb)
  have HBU:Hid (Below w.heap.size w u):=hid (((Below.refl _ w).alloc (Nat.le_refl _) _).trans (hb.mono (by simp)))
  have hus:w.heap.size + 1<=u.heap.size:=by have:=hb.size; simpa using this
  have c2:u.cell? ⟨w.heap.size,2,none⟩=some (.slice ea ne ec):=by rw [HKU.out.cell,HCS.out]; rfl
  clear hb HK0
  go_wp2_with fail
  go_loopw [3,12] (fun v i wr=>∃ k:Nat,k<=ne/\i = .int .i64 k/\w.heap.size + 1<=wr.heap.size/\Hid (wr.ownsRow (w.heap.size + 1) 41 2 v ((ents.take k).map (·.d)).length (dcells ((ents.take k).map (·.d))))/\Hid (Below w.heap.size w wr)/\Hid (BK w.heap.size cs 56 wr)) (fun _ i _=>ne - (intOf i).toNat)
  case atStart=>exact ⟨0,by omega,rfl,hus,hid (World.ownsRow_nil _ _ _ _),HBU,HKU⟩
  case round=>
   clear HKU HBU c2 hus
   obtain ⟨k,hk,rfl,hws,HO,HB,HK⟩:=hrel
   have hlk:((ents.take k).map (·.d)).length=k:=by rw [List.length_map,List.length_take]; have:=HNE.out; omega
   obtain ⟨av,cv,rfl,hcap⟩:=ownsRow_sliceN HO.out
   by_cases hlt:k < ne
   ·have h1:k < ents.length:=by have:=HNE.out; omega
    obtain ⟨b0,o0,rfl,hb0,q0,q1,q2,q3⟩:=(HEN.out.below HB.out (Nat.le_refl _)) k h1
    have HMS:=hid (map_take_succ ents k h1)
    generalize ents[k]=en at q0 q1 q2 q3 HMS
    obtain ⟨nm,dir,d1,d2⟩:=en
    simp only at q0 q1 q2 q3 HMS
    obtain ⟨u1,hu1⟩:∃ u1,u1=wr.alloc (.cells #[.string ⟨nm.toArray⟩,.bool dir,.int .u64 d1,.int .u64 d2] 121):=⟨_,rfl⟩
    have hz1:u1.heap.size=wr.heap.size + 1:=by rw [hu1]; simp
    have HO1:Hid (u1.ownsRow (w.heap.size + 1) 41 2 _ _ _):=hid (by rw [hu1]; exact HO.out.alloc _)
    have HB1:Hid (Below w.heap.size w u1):=hid (by rw [hu1]; exact HB.out.alloc (by omega) _)
    have HK1:Hid (BK w.heap.size cs 56 u1):=hid (by rw [hu1]; exact HK.out.alloc _)
    obtain ⟨v',W',hrun,hown',hg',hat'⟩:=append_one HO1.out d1 d2 (by omega) (by omega)
    have hne:(Value.slice av ((ents.take k).map (·.d)).length cv).ownBlock ≠ some w.heap.size:=fun hh=>by have:=(HO.out.lt _ hh).1; omega
    have HO2:Hid (W'.ownsRow (w.heap.size + 1) 41 2 v' ((ents.take (k + 1)).map (·.d)).length (dcells ((ents.take (k + 1)).map (·.d)))):=hid (by rw [HMS.out]; exact hown')
    have HB2:Hid (Below w.heap.size w W'):=hid ((HB1.out.alloc (by omega) _).grown hg' (by simp; omega) (fun j hj=>by have:=(HO.out.lt _ hj).1; omega))
    have HK2:Hid (BK w.heap.size cs 56 W'):=hid ((HK1.out.alloc _).grow hg' (fun j hj e=>hne (by rw [hj,e])))
    have hws2:w.heap.size + 1<=W'.heap.size:=by have:=hg'.size; simp at this; omega
    rw [hz1,hu1] at hrun
    have HRUN:=hid hrun
    clear hrun hown' hg' hat' hu1 HO1 HB1 HK1 hlk hne
    generalize ((ents.take k).map (·.d)).length=m at HRUN hcap ⊢
    go_wp2_with (at_builtin; refine Lib.wpList_append_run _ rfl _ _ _ _ rfl _ _ rfl rfl _ _ HRUN.out ?_)
    go_roundw
    case rel=>exact ⟨k + 1,by omega,by go_num,hws2,HO2,HB2,HK2⟩
    case measure=>simp [intOf]; omega
   ·have hfull:ents.take k=ents:=List.take_of_length_le (by have:=HNE.out; omega)
    rw [hfull] at HO hcap hlk ⊢
    clear hfull
    have c0:wr.cell? ⟨w.heap.size,0,none⟩=some (.int .i64 kind):=by rw [HK.out.cell,HCS.out]; rfl
    by_cases h3:kind=3
    ·subst h3
     rw [if_pos rfl] at HR
     have c3:wr.cell? ⟨w.heap.size,3,none⟩=some (.int .u64 t1):=by rw [HK.out.cell,HCS.out]; rfl
     have c4:wr.cell? ⟨w.heap.size,4,none⟩=some (.int .u64 t2):=by rw [HK.out.cell,HCS.out]; rfl
     obtain ⟨v1,W1,hrun1,hown1,hg1,_⟩:=append_one HO.out t1 t2 (by omega) (by omega)
     have hne:(Value.slice av (ents.map (·.d)).length cv).ownBlock ≠ some w.heap.size:=fun hh=>by have:=(HO.out.lt _ hh).1; omega
     have HB1:Hid (Below w.heap.size w W1):=hid ((HB.out.alloc (by omega) _).grown hg1 (by simp; omega) (fun j hj=>by have:=(HO.out.lt _ hj).1; omega))
     have HK1:Hid (BK w.heap.size cs 56 W1):=hid ((HK.out.alloc _).grow hg1 (fun j hj e=>hne (by rw [hj,e])))
     have hws1:w.heap.size + 1<=W1.heap.size:=by have:=hg1.size; simp at this; omega
     have c5:W1.cell? ⟨w.heap.size,5,none⟩=some (.slice pa np pc):=by rw [HK1.out.cell,HCS.out]; rfl
     obtain ⟨v2,W2,hrun2,hown2,hg2,_⟩:=append_digs W1 (w.heap.size + 1) 24 v1 _ hown1 pa pars pc ((HPA.out.below HB1.out (Nat.le_refl _)).mono HB1.out.size) (by simp; have:=HNP.out; have:=HNE.out; simp at hlk; omega) (by omega)
     have HB2:Hid (Below w.heap.size w W2):=hid (HB1.out.grown hg2 HB1.out.size (fun j hj=>by have:=(hown1.lt _ hj).1; omega))
     rw [<-HNP.out] at hrun2
     have HRUN1:=hid hrun1
     have HRUN2:=hid hrun2
     have HO2:=hid hown2
     clear hrun1 hrun2 hown1 hown2 hg1 hg2 HK1 HB1 hlk
     have hRl:R=ents.map (·.d) ++ [(t1,t2)] ++ pars:=by rw [HR.out]; simp
     have HRL:=hid hRl
     clear hRl
     generalize (ents.map (·.d)).length=m at HRUN1 hcap ⊢
     have tok1:True:=trivial
     go_wp2_with (at_builtin; first | (have _t:=tok1; refine Lib.wpList_append_run _ rfl _ _ _ _ rfl _ _ rfl rfl _ _ HRUN1.out ?_; clear _t tok1) | (refine Lib.wpList_append_run _ rfl _ _ _ _ rfl _ _ rfl rfl _ _ HRUN2.out ?_))
     obtain ⟨a2,cap2,rfl,_⟩:=ownsRow_sliceN HO2.out
     go_ret
     rw [HRL.out]
     exact ⟨a2,cap2,rfl,own_le HO2.out (by omega),HB2.out⟩
    ·rw [if_neg h3,List.append_nil] at HR
     have e3:(kind == 3)=false:=by simpa using h3
     clear h3 hlk
     have HO2:=hid HO.out
     rw [<-HR.out] at HO2 ⊢
     clear HO
     go_wp2_with fail
     go_ret
     exact ⟨av,cv,rfl,own_le HO2.out (by omega),HB.out⟩
 ·rw [if_pos he] at hR
  have HR:=hid hR
  have hne:(er != 0)=true:=by simpa using he
  clear hR he
  go_enter Tryz.func190,Tryz.ntmps190
  go_wp2_with fail
  have hx:=HX.out
  (with_reducible refine hx.mono ?_)
  clear hx HX
  rintro e u ⟨rfl,hb⟩
  have HBU:Hid (Below w.heap.size w u):=hid (((Below.refl _ w).alloc (Nat.le_refl _) _).trans (hb.mono (by simp)))
  clear hb
  go_wp2_with fail
  go_ret
  rw [HR.out]
  exact ⟨none,0,rfl,World.ownsRow_nil _ _ _ _,HBU.out⟩
theorem cloneD_any (a:Option Addr) (ds:List (Int × Int)) (c:Nat) (w:World) (h:Digs w.heap.size w a ds) (hn:(ds.length:Int)<=1000000) :
  Calls Tryz.prog 85 #[.slice a ds.length c] w (GotDs w ds):=by
 cases a with
 | none=>
  have hd:ds=[]:=by
   cases ds with
   | nil=>rfl
   | cons x xs=>
    obtain ⟨b,off,e,_⟩:=h 0 (by simp)
    cases e
  subst hd
  clear h
  have hq:∀ W,(binOp .eql 24 (.slice none 0 c) (.slice none 0 0)).run Tryz.prog W = .ok (.bool true) W:=fun W=>by
   simp only [binOp]
   simp [Op.equal,Op.maxDepth,Lib.run_equalIn_slice_nil W 9999 24 41 none 0 c 0 0 Tryz.underlying24]
  go_enter Tryz.func85,Tryz.ntmps85
  go_wp2_with fail
  go_ret
  exact ⟨none,0,rfl,World.ownsRow_nil _ _ _ _,Below.refl _ _⟩
 | some ad=>
  obtain ⟨v',W',hrun,hown,hg,_⟩:=append_digs (w.alloc (.cells #[] 41)) w.heap.size 24 (.slice (some ⟨w.heap.size,0,none⟩) 0 0) [] (World.ownsRow_made (size:=2) w #[] 0 (Nat.le_refl _) (by decide) rfl) (some ad) ds c ((h.below ((Below.refl _ w).alloc (Nat.le_refl _) _) (Nat.le_refl _)).mono (by simp)) (by simp; omega) (by simp)
  have HO:=hid hown
  have HB:Hid (Below w.heap.size w W'):=hid (((Below.refl _ w).alloc (Nat.le_refl _) _).grown hg (by simp) (fun k hk=>by simp [Value.ownBlock] at hk; omega))
  obtain ⟨n,hnn⟩:∃ n,n=ds.length:=⟨_,rfl⟩
  rw [<-hnn] at hrun ⊢
  have HRUN:=hid hrun
  clear hrun hown hg hnn h
  have hq:∀ W,(binOp .eql 24 (.slice (some ad) n c) (.slice none 0 0)).run Tryz.prog W = .ok (.bool false) W:=fun W=>by
   simp only [binOp]
   simp [Op.equal,Op.maxDepth,Lib.run_equalIn_slice_nil W 9999 24 41 (some ad) n c 0 0 Tryz.underlying24]
  go_enter Tryz.func85,Tryz.ntmps85
  go_wp2_with (at_builtin; refine Lib.wpList_append_run _ rfl _ _ _ _ rfl _ _ rfl rfl _ _ HRUN.out ?_)
  obtain ⟨a2,c2,rfl,_⟩:=ownsRow_sliceN HO.out
  go_ret
  exact ⟨a2,c2,rfl,HO.out,HB.out⟩
theorem eq_take_full {α:Type} {l m:List α} (hl:l.length=m.length) (k:Nat) (h:l.take k=m.take k) (hk:l.length<=k):l=m:=by
 rwa [List.take_of_length_le hk,List.take_of_length_le (by omega)] at h
open Go.RowKit Go.Shelf Go.Sort
def encD (d:Int × Int):List Value:=[.int .u64 d.1,.int .u64 d.2]
def sortS (ds:List (Int × Int)):List (Int × Int):=ds.mergeSort fun x y=>!(ltOf cmpD) y x
theorem sortS_perm (ds:List (Int × Int)):(sortS ds).Perm ds:=List.mergeSort_perm _ _
theorem swoD:SWO (ltOf cmpD) where
 irrefl x:=by unfold ltOf; rw [cmpD_self]; rfl
 trans x y z h1 h2:=by unfold ltOf at *; simp only [decide_eq_true_eq] at *; exact cmpD_trans h1 h2
 ntrans x y z h1 h2:=by
  unfold ltOf at *
  simp only [decide_eq_false_iff_not] at *
  have g1:=cmpD_range x y
  have g2:=cmpD_range y z
  have g3:=cmpD_range x z
  omega
theorem totD:∀ x y,ltOf cmpD x y=false->ltOf cmpD y x=false->x=y:=by
 intro x y h1 h2
 unfold ltOf at *
 simp only [decide_eq_false_iff_not] at *
 have g1:=cmpD_range x y
 have g2:=cmpD_range y x
 exact Prod.ext (by omega) (by omega)
theorem cmpLaysD (blk off size:Nat) (w:World):CmpLays Tryz.prog 75 #[] encD 2 cmpD blk off size w:=
 fun _ _ _ _ x y=>cmpD_any x.1 x.2 y.1 y.2 _
theorem flat_dcells (ds:List (Int × Int)):flatK encD 2 ds.toArray=(dcells ds).toArray:=by
 apply Array.ext
 ·simp [dcells_length]
 ·intro t h1 h2
  have ht:t < ds.length * 2:=by simpa using h1
  have hg:=get_flatK encD 2 ds.toArray t (by simpa using ht)
  rw [getElem!_pos _ t h1] at hg
  rw [hg]
  have hi:t / 2 < ds.length:=by omega
  have e:(ds.toArray)[t / 2]! = ds[t / 2]:=by rw [getElem!_pos _ _ (by simpa using hi)]; simp
  rw [e]
  obtain ⟨d0,d1⟩:=dcells_at ds (t / 2) hi
  have hx:(dcells ds)[t]? = some ((dcells ds).toArray[t]):=by
   have:t < (dcells ds).length:=by simpa using h2
   rw [List.getElem?_eq_getElem this]; simp
  generalize (dcells ds).toArray[t]=z at hx ⊢
  rcases (by omega:t % 2=0\/t % 2=1) with h | h
  ·rw [h]
   rw [show t=t / 2 * 2 by omega,d0] at hx
   rw [<-Option.some.inj hx]
   rfl
  ·rw [h]
   rw [show t=t / 2 * 2 + 1 by omega,d1] at hx
   rw [<-Option.some.inj hx]
   rfl
theorem sortS_length (ds:List (Int × Int)):(sortS ds).length=ds.length:=(sortS_perm ds).length_eq
theorem heap_sortedD {w:World} {g n:Nat} {os:Array Obj} {cur:Array Value} {e:TypeId} {fr:Nat × Nat} (F:Array Value) (hb:w.heap[g]? = some (.cells cur e fr)) :
  (grow (putRow id (Go.Sort.ahead w n) g 0 F) os).heap[g]? = some (.cells (putCells id 0 F cur) e fr):=by
 have hg:g < w.heap.size:=(Array.getElem?_eq_some_iff.1 hb).1
 rw [heap_grow_old _ _ (by simpa using hg)]
 simp [putRow,mapBlock,Go.Sort.ahead,Array.getElem?_modify,hb,onCells]
theorem grownBy_sortedD {w:World} {g n:Nat} {os:Array Obj} (F:Array Value):w.grownBy (grow (putRow id (Go.Sort.ahead w n) g 0 F) os) (some g):=by
 refine ⟨rfl,rfl,rfl,by simp,fun k hk hne=>?_⟩
 rw [heap_grow_old _ _ (by simpa using hk)]
 have:g ≠ k:=fun e=>hne (by rw [e])
 simp [putRow,mapBlock,Go.Sort.ahead,Array.getElem?_modify,this]
theorem take_putCellsD (cur:Array Value) (F:List Value) (h:F.length<=cur.size):(putCells id 0 F.toArray cur).toList.take F.length=F:=by
 apply List.ext_getElem?
 intro j
 by_cases hj:j < F.length
 ·rw [List.getElem?_take_of_lt hj,Array.getElem?_toList]
  simp [putCells,hj,show j < cur.size by omega]
 ·rw [List.getElem?_take_eq_none (by omega),List.getElem?_eq_none (by omega)]
theorem sortD_any {base:Nat} (a:Option Addr) (ds:List (Int × Int)) (c:Nat) (w:World) (ho:w.ownsRow base 41 2 (.slice a ds.length c) ds.length (dcells ds)) (hn:(ds.length:Int)<=1000000000) :
  Calls Tryz.prog 191 #[.slice a ds.length c,.func (.func 75) #[] #[]] w fun e w'=>e = .returned (.tuple #[])/\w'.ownsRow base 41 2 (.slice a ds.length c) ds.length (dcells (sortS ds))/\w.grownBy w' (Value.slice a ds.length c).ownBlock:=by
 rcases ho.2 with ⟨h1,h2⟩ | ⟨g,cap,cur,h1,hbase,hg,hcap,hmax,hcs,htake⟩
 ·have hd:ds=[]:=List.eq_nil_of_length_eq_zero h2
  subst hd
  have:=AnyF.slices_SortFunc_none Tryz.sortD a c (.func (.func 75) #[] #[]) w
  refine Calls.mono this fun e w' ⟨he,hw⟩=>⟨he,?_,?_⟩
  ·rw [hw,show sortS []=[] by simp [sortS]]; exact ho
  ·rw [hw]; exact ⟨rfl,rfl,rfl,Nat.le_refl _,fun _ _ _=>rfl⟩
 ·cases h1
  have eg:∀ args w,(callFunc 75 args).run Tryz.prog w = .ok (.enter 75 args) w:=enters_of Tryz.func75 (by kernel_rfl) rfl
  have hH:HoldsK encD 2 w g 0 ds.toArray:=by
   unfold HoldsK
   rw [flat_dcells]
   intro j hj
   have hj':j < (dcells ds).length:=by simpa using hj
   refine ⟨?_,Lib.frozen_of_heap hg _⟩
   rw [Lib.cell_of_heap hg,Nat.zero_add]
   have h3:(cur.toList.take (ds.length * 2))[j]? = (dcells ds)[j]?:=by rw [htake]
   rw [List.getElem?_take_of_lt (by rw [dcells_length] at hj'; exact hj'),Array.getElem?_toList] at h3
   rw [h3,List.getElem?_eq_getElem hj',getElem!_pos _ j hj]
   simp
  have hcon:=AnyQ.slices_SortFunc_total Tryz.sortD 2 Tryz.isAgg41 Tryz.sizeOf41 encD (fun _=>rfl) (fun x v hv=>by simp [encD] at hv; rcases hv with rfl | rfl <;> rfl) cmpD swoD 75 #[] g 0 c ds.toArray w eg (cmpLaysD g 0 _ w) hH (Array.getElem?_eq_some_iff.1 hg).1 (by simp; omega) totD
  have hcon2:Calls Tryz.prog 191 #[.slice (some ⟨g,0,none⟩) ds.length c,.func (.func 75) #[] #[]] w _:=hcon
  refine hcon2.mono fun e w' ⟨he,n,os,hw⟩=>⟨he,?_,?_⟩
  ·rw [hw]
   unfold sortWorldK putRowK
   have hl:=sortS_length ds
   change (grow (putRow id (Go.Sort.ahead w n) g 0 (flatK encD 2 (sortS ds).toArray)) os).ownsRow _ _ _ _ _ _
   rw [flat_dcells]
   have hl2:(dcells (sortS ds)).length=ds.length * 2:=by rw [dcells_length,hl]
   exact ⟨hl2,.inr ⟨g,c,_,rfl,hbase,heap_sortedD _ hg,hcap,hmax,by simp [putCells,hcs],by rw [<-hl2]; exact take_putCellsD cur _ (by rw [hl2,hcs]; exact Nat.mul_le_mul_right _ hcap)⟩⟩
  ·rw [hw]
   unfold sortWorldK putRowK
   exact grownBy_sortedD _
def reachF (xs:List Itm):Nat->List (Int × Int)->List (Int × Int)->List (Int × Int)->List (Int × Int)->List (Int × Int) × List (Int × Int)
 | 0,_,_,R,M=>(R,M)
 | f + 1,op,met,R,M=>
  match op.getLast? with
  | none=>(R,M)
  | some d=>
   if d ∈ met then reachF xs f op.dropLast met R M
   else if (getS xs d).2 ≠ 0 then reachF xs f op.dropLast (d :: met) R (M ++ [d])
   else reachF xs f (op.dropLast ++ (linksS (getS xs d).1).filter fun l=>!decide (l ∈ d :: met)) (d :: met) (R ++ [d]) M
def fuelR (xs:List Itm) (roots:List (Int × Int)):Nat:=1000 * xs.length + roots.length
def reachS (xs:List Itm) (roots:List (Int × Int)):List (Int × Int) × List (Int × Int):=
 (sortS (reachF xs (fuelR xs roots) roots [(0,0)] [] []).1,sortS (reachF xs (fuelR xs roots) roots [(0,0)] [] []).2)
theorem reachF_nil (xs:List Itm) (f:Nat) (met R M:List (Int × Int)):reachF xs f [] met R M=(R,M):=by
 cases f <;> rfl
theorem reachF_met {xs:List Itm} {f:Nat} {op met R M:List (Int × Int)} {d:Int × Int} (h:d ∈ met):reachF xs (f + 1) (op ++ [d]) met R M=reachF xs f op met R M:=by
 rw [reachF]; simp [h]
theorem reachF_miss {xs:List Itm} {f:Nat} {op met R M:List (Int × Int)} {d:Int × Int} (h:d ∉ met) (he:(getS xs d).2 ≠ 0):reachF xs (f + 1) (op ++ [d]) met R M=reachF xs f op (d :: met) R (M ++ [d]):=by
 rw [reachF]; simp [h,he]
theorem reachF_hit {xs:List Itm} {f:Nat} {op met R M:List (Int × Int)} {d:Int × Int} (h:d ∉ met) (he:(getS xs d).2=0):reachF xs (f + 1) (op ++ [d]) met R M=reachF xs f (op ++ (linksS (getS xs d).1).filter fun l=>!decide (l ∈ d :: met)) (d :: met) (R ++ [d]) M:=by
 rw [reachF]; simp [h,he]
def mea (xs:List Itm) (op met:List (Int × Int)):Nat:=1000 * xs.countP (fun x=>!decide (x.d ∈ met)) + op.length
theorem countP_le (xs:List Itm) (met:List (Int × Int)) (d:Int × Int):xs.countP (fun x=>!decide (x.d ∈ d :: met))<=xs.countP (fun x=>!decide (x.d ∈ met)):=by
 refine List.countP_mono_left (fun x _ h=>?_)
 simp at h ⊢
 exact h.2
theorem countP_lt {xs:List Itm} {met:List (Int × Int)} {x:Itm} (hx:x ∈ xs) (hm:x.d ∉ met):xs.countP (fun y=>!decide (y.d ∈ x.d :: met)) + 1<=xs.countP (fun y=>!decide (y.d ∈ met)):=by
 induction xs with
 | nil=>simp at hx
 | cons y ys ih=>
  rw [List.countP_cons,List.countP_cons]
  rcases List.mem_cons.1 hx with rfl | hx
  ·have:=countP_le ys met x.d
   simp [hm] at this ⊢
   omega
  ·have h1:=ih hx
   have:(if (!decide (y.d ∈ x.d :: met))=true then 1 else 0)<=(if (!decide (y.d ∈ met))=true then 1 else 0):=by
    by_cases h2:y.d ∈ met
    ·simp [h2]
    ·simp [h2]; split <;> omega
   omega
theorem getS_good {xs:List Itm} {d:Int × Int} (h:(getS xs d).2=0):∃ x ∈ xs,x.d=d/\decodeS x.data=getS xs d:=by
 unfold getS at h ⊢
 split at h
 ·rename_i y hy
  split at h
  ·rename_i hd
   exact ⟨y,List.mem_of_getElem? hy,hd,by simp [hd]⟩
  ·simp at h
 ·simp at h
theorem links_le (o:Ob):(linksS o).length<=200:=by
 unfold linksS
 split
 ·simp
 ·rename_i he
  have h:=encodeS_parts (encodeS_err (by simpa using he))
  have hc:=h.1
  have hk:=checkS_kind hc
  by_cases h1:o.kind=1\/o.kind=4
  ·rw [checkS_one hc h1]; simp [obZ]; split <;> simp <;> omega
  ·by_cases h2:o.kind=2
   ·have:=(entsE_parts (checkS_two hc h2).2).1
    rw [if_neg (by omega)]; simp; exact this
   ·have h3:o.kind=3:=by omega
    have hp:=(commitE_parts (checkS_three hc h3).2).1
    rw [(checkS_three hc h3).1]; simp; omega
theorem links_ok {xs:List Itm} {d:Int × Int} (h:(getS xs d).2=0):∀ l ∈ linksS (getS xs d).1,OkD l:=by
 obtain ⟨x,_,_,hd⟩:=getS_good h
 have hg:decodeS x.data=((getS xs d).1,0):=by rw [hd,<-h]
 have ho:=(decode_good hg).2
 intro l hl
 unfold linksS at hl
 split at hl
 ·simp at hl
 ·rcases List.mem_append.1 hl with h1 | h1
  ·obtain ⟨e,he,rfl⟩:=List.mem_map.1 h1
   exact ho.2.2 e he
  ·split at h1
   ·rcases List.mem_cons.1 h1 with rfl | h2
    ·exact ho.1
    ·exact ho.2.1 l h2
   ·simp at h1
theorem mea_pop (xs:List Itm) (op met:List (Int × Int)) (d:Int × Int):mea xs op met + 1=mea xs (op ++ [d]) met:=by
 unfold mea; simp; omega
theorem mea_miss (xs:List Itm) (op met:List (Int × Int)) (d:Int × Int):mea xs op (d :: met) + 1<=mea xs (op ++ [d]) met:=by
 have:=countP_le xs met d
 unfold mea; rw [List.length_append]; simp only [List.length_cons,List.length_nil]; omega
theorem mea_hit {xs:List Itm} {op met ls:List (Int × Int)} {d:Int × Int} (hm:d ∉ met) (h:(getS xs d).2=0) (hl:ls.length<=200):mea xs (op ++ ls) (d :: met) + 1<=mea xs (op ++ [d]) met:=by
 obtain ⟨x,hx,rfl,_⟩:=getS_good h
 have:=countP_lt hx hm
 unfold mea; rw [List.length_append,List.length_append]; simp only [List.length_cons,List.length_nil]; omega
theorem mea_start (xs:List Itm) (roots:List (Int × Int)):mea xs roots [(0,0)]<=fuelR xs roots:=by
 have:xs.countP (fun x=>!decide (x.d ∈ [((0:Int),(0:Int))]))<=xs.length:=List.countP_le_length
 unfold mea fuelR
 omega
def Apart (u v:Value):Prop:=∀ k,u.ownBlock=some k->v.ownBlock ≠ some k
theorem Apart.symm {u v:Value} (h:Apart u v):Apart v u:=fun k h1 h2=>h k h2 h1
theorem Apart.nil (v:Value):Apart (.slice none 0 0) v:=fun k h=>by simp [Value.ownBlock] at h
theorem own_apart {W W':World} {base:Nat} {e:TypeId} {z:Nat} {u v:Value} {n:Nat} {xs:List Value} (h:W.ownsRow base e z u n xs) (ha:Apart u v) (hg:W.grownBy W' v.ownBlock):W'.ownsRow base e z u n xs:=
 h.kept hg (by
  cases hu:u.ownBlock with
  | none=>exact .inl rfl
  | some k=>exact .inr (fun e=>ha k hu e.symm))
theorem apart_step {W:World} {base:Nat} {e:TypeId} {z:Nat} {u v v':Value} {n N:Nat} {xs:List Value} (h:W.ownsRow base e z u n xs) (ha:Apart u v) (hat:v'.ownBlock=v.ownBlock\/v'.ownBlock=some N) (hN:W.heap.size<=N):Apart u v':=by
 intro k hk
 rcases hat with e | e
 ·rw [e]; exact ha k hk
 ·rw [e]
  intro e2
  have:=(h.lt k hk).2
  have:=Option.some.inj e2
  omega
structure RchSt (w W:World) (M:Int × Int->Bool) (nm:Nat) (vo vr vm:Value) (op R Ms:List (Int × Int)):Prop where
 mp:MapD w.heap.size nm M W
 oo:W.ownsRow (w.heap.size + 1) 41 2 vo op.length (dcells op)
 orr:W.ownsRow (w.heap.size + 1) 41 2 vr R.length (dcells R)
 om:W.ownsRow (w.heap.size + 1) 41 2 vm Ms.length (dcells Ms)
 a1:Apart vo vr
 a2:Apart vo vm
 a3:Apart vr vm
 bel:Below w.heap.size w W
section
variable {w W W':World} {M:Int × Int->Bool} {nm:Nat} {vo vr vm v':Value} {op R Ms:List (Int × Int)}
theorem RchSt.lt (h:RchSt w W M nm vo vr vm op R Ms):w.heap.size + 1<=W.heap.size:=h.mp.lt
theorem RchSt.below (h:RchSt w W M nm vo vr vm op R Ms) (hb:Below W.heap.size W W'):RchSt w W' M nm vo vr vm op R Ms:=
 ⟨h.mp.below hb,own_below h.oo hb,own_below h.orr hb,own_below h.om hb,h.a1,h.a2,h.a3,h.bel.trans (hb.mono (by have:=h.lt; omega))⟩
theorem RchSt.alloc (h:RchSt w W M nm vo vr vm op R Ms) (o:Obj):RchSt w (W.alloc o) M nm vo vr vm op R Ms:=h.below ((Below.refl _ _).alloc (Nat.le_refl _) _)
theorem RchSt.put {M':Int × Int->Bool} (h:RchSt w W M nm vo vr vm op R Ms) (hm:MapD w.heap.size (nm + 1) M' W') (hg:W.grownBy W' (some w.heap.size)):RchSt w W' M' (nm + 1) vo vr vm op R Ms:=
 ⟨hm,own_kept h.oo hg (by omega),own_kept h.orr hg (by omega),own_kept h.om hg (by omega),h.a1,h.a2,h.a3,below_of_grown h.bel hg (Nat.le_refl _)⟩
theorem own_map_ne {W:World} {base:Nat} {e:TypeId} {z:Nat} {v:Value} {n b:Nat} {xs:List Value} (h:W.ownsRow base e z v n xs) (hb:b < base):some b ≠ v.ownBlock:=fun e1=>by have:=(h.lt b e1.symm).1; omega
theorem RchSt.bel' {base:Nat} {e:TypeId} {z:Nat} {n:Nat} {xs:List Value} (h:Below w.heap.size w W) (ho:W.ownsRow base e z vo n xs) (hb:w.heap.size<=base) (hg:W.grownBy W' vo.ownBlock):Below w.heap.size w W':=h.grown hg h.size (fun k hk=>by have:=(ho.lt k hk).1; omega)
theorem RchSt.pushO (h:RchSt w W M nm vo vr vm op R Ms) {op':List (Int × Int)} (hown:W'.ownsRow (w.heap.size + 1) 41 2 v' op'.length (dcells op')) (hg:W.grownBy W' vo.ownBlock) (hat:v'.ownBlock=vo.ownBlock\/v'.ownBlock=some W.heap.size):RchSt w W' M nm v' vr vm op' R Ms:=
 ⟨h.mp.kept hg (own_map_ne h.oo (by omega)),hown,own_apart h.orr h.a1.symm hg,own_apart h.om h.a2.symm hg,(apart_step h.orr h.a1.symm hat (Nat.le_refl _)).symm,(apart_step h.om h.a2.symm hat (Nat.le_refl _)).symm,h.a3,RchSt.bel' h.bel h.oo (by omega) hg⟩
theorem RchSt.pushR (h:RchSt w W M nm vo vr vm op R Ms) {R':List (Int × Int)} (hown:W'.ownsRow (w.heap.size + 1) 41 2 v' R'.length (dcells R')) (hg:W.grownBy W' vr.ownBlock) (hat:v'.ownBlock=vr.ownBlock\/v'.ownBlock=some W.heap.size):RchSt w W' M nm vo v' vm op R' Ms:=
 ⟨h.mp.kept hg (own_map_ne h.orr (by omega)),own_apart h.oo h.a1 hg,hown,own_apart h.om h.a3.symm hg,apart_step h.oo h.a1 hat (Nat.le_refl _),h.a2,(apart_step h.om h.a3.symm hat (Nat.le_refl _)).symm,RchSt.bel' h.bel h.orr (by omega) hg⟩
theorem RchSt.pushM (h:RchSt w W M nm vo vr vm op R Ms) {M':List (Int × Int)} (hown:W'.ownsRow (w.heap.size + 1) 41 2 v' M'.length (dcells M')) (hg:W.grownBy W' vm.ownBlock) (hat:v'.ownBlock=vm.ownBlock\/v'.ownBlock=some W.heap.size):RchSt w W' M nm vo vr v' op R M':=
 ⟨h.mp.kept hg (own_map_ne h.om (by omega)),own_apart h.oo h.a2 hg,own_apart h.orr h.a3 hg,hown,h.a1,apart_step h.oo h.a2 hat (Nat.le_refl _),apart_step h.orr h.a3 hat (Nat.le_refl _),RchSt.bel' h.bel h.om (by omega) hg⟩
theorem RchSt.pop {d1 d2:Int} (h:RchSt w W M nm vo vr vm (op ++ [(d1,d2)]) R Ms):∃ g c,vo = .slice (some ⟨g,0,none⟩) (op.length + 1) c/\op.length + 1<=c/\W.cell? ⟨g,op.length * 2,none⟩=some (.int .u64 d1)/\W.cell? ⟨g,op.length * 2 + 1,none⟩=some (.int .u64 d2)/\
  RchSt w W M nm (.slice (some ⟨g,0,none⟩) op.length c) vr vm op R Ms:=by
 have ho:=h.oo
 rcases ho.2 with ⟨h1,h2⟩ | ⟨g,c,cur,h1,hbase,hg,hcap,hmax,hcs,htake⟩
 ·simp at h2
 ·rw [List.length_append,List.length_singleton] at h1 hcap htake
  subst h1
  have hat:=dcells_at (op ++ [(d1,d2)]) op.length (by simp)
  simp only [List.getElem_append_right (Nat.le_refl _),Nat.sub_self,List.getElem_cons_zero] at hat
  refine ⟨g,c,rfl,hcap,?_,?_,⟨h.mp,?_,h.orr,h.om,h.a1,h.a2,h.a3,h.bel⟩⟩
  ·have:=ho.cells (g:=g) rfl _ _ hat.1; rwa [Go.WideShapes.add_plain,Nat.zero_add] at this
  ·have:=ho.cells (g:=g) rfl _ _ hat.2; rwa [Go.WideShapes.add_plain,Nat.zero_add] at this
  ·refine ⟨dcells_length op,.inr ⟨g,c,cur,rfl,hbase,hg,by omega,hmax,hcs,?_⟩⟩
   have h3:(cur.toList.take ((op.length + 1) * 2)).take (op.length * 2)=dcells op:=by
    rw [htake,dcells_append,<-dcells_length op,List.take_left]
   rw [List.take_take,Nat.min_eq_left (by omega)] at h3
   exact h3
end
theorem dpop_run (g n c f:Nat) (h:f<=c) (hc:0 < c) (W:World):(Instr.slice 24 (.slice (some ⟨g,0,none⟩) n c) none (some (.int .i64 f)) none).run Tryz.prog W = .ok (.slice (some ⟨g,0,none⟩) f c) W:=by
 rw [run_slice_h (P:=Tryz.prog) W 24 (some ⟨g,0,none⟩) n c (by kernel_rfl) .i64 f (by omega) (by omega),size_dig]
 simp [sliced,Result.andThen,Go.WideShapes.add_plain]
def GotRM (w:World) (r:List (Int × Int) × List (Int × Int)) (e:Ending) (w':World):Prop:=
 ∃ a c a' c',e = .returned (.tuple #[.slice a r.1.length c,.slice a' r.2.length c'])/\w'.ownsRow w.heap.size 41 2 (.slice a r.1.length c) r.1.length (dcells r.1)/\w'.ownsRow w.heap.size 41 2 (.slice a' r.2.length c') r.2.length (dcells r.2)/\Below w.heap.size w w'
theorem MapD.eq {b n:Nat} {M M':Int × Int->Bool} {W:World} (h:MapD b n M W) (e:∀ d,M d=M' d):MapD b n M' W:=by
 have:M=M':=funext e
 rw [<-this]; exact h
theorem met_or (met:List (Int × Int)) (e d:Int × Int):(decide (d ∈ met) || decide (d=e))=decide (d ∈ e :: met):=by
 by_cases h1:d=e <;> by_cases h2:d ∈ met <;> simp [h1,h2]
theorem ObOwn.keptR {base:Nat} {W W':World} {o:Ob} {ea:Option Addr} {ec:Nat} {pa:Option Addr} {pc:Nat} {row:Option Nat} (h:ObOwn base W o ea ec pa pc) (hg:W.grownBy W' row) (hb:∀ k,row=some k->k < base):ObOwn base W' o ea ec pa pc:=by
 cases row with
 | none=>exact h.below ⟨hg.os,hg.tape,hg.output,hg.size,fun k hk=>hg.block k hk (by simp)⟩
 | some b=>exact h.kept hg (hb b rfl)
structure RL (xs:List Itm) (roots:List (Int × Int)) (w wr:World) (k:Nat) (vo vr vm:Value) (op R Ms met:List (Int × Int)) (nm:Nat):Prop where
 st:RchSt w wr (fun d=>decide (d ∈ met)) nm vo vr vm op R Ms
 eq:reachF xs (fuelR xs roots) roots [(0,0)] [] []=reachF xs k op met R Ms
 me:mea xs op met<=k
 nk:nm + k<=fuelR xs roots + 1
 rk:R.length + Ms.length + k<=fuelR xs roots
 ok:∀ d ∈ op,OkD d
theorem filter_take_succ {α:Type} (F:α->Bool) (ls:List α) (j:Nat) (h:j < ls.length):(ls.take (j + 1)).filter F=(ls.take j).filter F ++ (if F ls[j] then [ls[j]] else []):=by
 rw [List.take_succ_eq_append_getElem h,List.filter_append]
 congr 1
 by_cases hf:F ls[j]=true <;> simp [hf]
def RX (xs:List Itm) (roots:List (Int × Int)) (w:World) (k:Nat) (vr vm vo:Value) (wr:World):Prop:=∃ op R Ms met nm,RL xs roots w wr k vo vr vm op R Ms met nm
theorem reach_any (a:Option Addr) (xs:List Itm) (c:Nat) (ra:Option Addr) (roots:List (Int × Int)) (rc:Nat) (w:World) (hp:PoolIn w a xs c) (ha:Asc xs) (hr:Digs w.heap.size w ra roots) (hok:∀ d ∈ roots,OkD d) (hxl:(xs.length:Int)<=500) (hrl:(roots.length:Int)<=10000) :
  Calls Tryz.prog 135 #[.slice a xs.length c,.slice ra roots.length rc] w (GotRM w (reachS xs roots)):=by
 have HG:=hid (fun d1 d2 W (hW:Below w.heap.size w W)=>get_any a xs c d1 d2 W (hp.below hW) ha)
 have HCL:=hid (fun W (hW:Below w.heap.size w W)=>cloneD_any ra roots rc W ((hr.below hW (Nat.le_refl _)).mono hW.size) (by omega))
 have hfu:((fuelR xs roots:Nat):Int)<=510000:=by unfold fuelR; omega
 have HOK:=hid hok
 obtain ⟨W1,hrun1,hmap1,hg1⟩:=(MapD.made w).put OkD_zero (by omega)
 have HM1:=hid (hmap1.eq (M':=fun d=>decide (d ∈ [((0:Int),(0:Int))])) (fun d=>by simp))
 have HB1:Hid (Below w.heap.size w W1):=hid (below_of_grown ((Below.refl _ w).alloc (Nat.le_refl _) _) hg1 (Nat.le_refl _))
 have hz1:w.heap.size + 1<=W1.heap.size:=by have:=hg1.size; simpa using this
 have hrun1':=hrun1
 have hmm:=@run_makeMap Tryz.prog
 have HC1:=hid (HCL.out W1 HB1.out)
 obtain ⟨n,hn⟩:∃ n,n=xs.length:=⟨_,rfl⟩
 obtain ⟨rn,hrn⟩:∃ rn,rn=roots.length:=⟨_,rfl⟩
 rw [<-hn] at HG ⊢
 rw [<-hrn] at HC1 ⊢
 clear hp ha hr hok hmap1 hg1 HCL hrun1' hn hrn hxl hrl
 go_enter Tryz.func135,Tryz.ntmps135
 go_wp2_with fail
 have hx:=HC1.out
 (with_reducible refine hx.mono ?_)
 clear hx HC1 hrun1
 rintro e W2 ⟨oa,oc,rfl,hown2,hb2⟩
 have HRX:Hid (RX xs roots w (fuelR xs roots) (.slice none 0 0) (.slice none 0 0) (.slice oa roots.length oc) W2):=Lib.hid
  ⟨roots,[],[],[(0,0)],1,⟨⟨HM1.out.below hb2,own_le hown2 (by omega),World.ownsRow_nil _ _ _ _,World.ownsRow_nil _ _ _ _,(Apart.nil _).symm,(Apart.nil _).symm,Apart.nil _,HB1.out.trans (hb2.mono (by omega))⟩,rfl,mea_start xs roots,by omega,by simp,HOK.out⟩⟩
 clear hown2 hb2 HM1 HB1 hz1 hmm W1
 go_wp2_with fail
 go_loopg [6,7,9] (fuelR xs roots) (fun k vr vm vo wr=>Hid (RX xs roots w k vr vm vo wr))
 case atStart=>exact HRX
 case round=>
  clear HRX
  obtain ⟨op,R,Ms,met,nm,hRL⟩:=hrel.out
  have HRL:=hid hRL
  clear hRL hrel
  rcases List.eq_nil_or_concat op with hop | ⟨op',d,hop⟩
  ·subst hop
   have HE:Hid (reachS xs roots=(sortS R,sortS Ms)):=hid (by unfold reachS; rw [HRL.out.eq,reachF_nil])
   have hkk:=HRL.out.rk
   obtain ⟨ao,co,rfl,_⟩:=ownsRow_sliceN HRL.out.st.oo
   obtain ⟨ar,cr,rfl,_⟩:=ownsRow_sliceN HRL.out.st.orr
   obtain ⟨am,cm,rfl,_⟩:=ownsRow_sliceN HRL.out.st.om
   have HS1:=hid (sortD_any ar R cr wr HRL.out.st.orr (by omega))
   go_wp2_with fail
   have hx:=HS1.out
   (with_reducible refine hx.mono ?_)
   clear hx HS1
   rintro e x1 ⟨rfl,ho1,hg1⟩
   have hom1:=own_apart HRL.out.st.om HRL.out.st.a3.symm hg1
   have HS2:=hid (sortD_any am Ms cm x1 hom1 (by omega))
   have HO1:=hid ho1
   have HB1:Hid (Below w.heap.size w x1):=hid (RchSt.bel' HRL.out.st.bel HRL.out.st.orr (by omega) hg1)
   have HOM:=hid hom1
   clear ho1 hg1 hom1
   go_wp2_with fail
   have hx:=HS2.out
   (with_reducible refine hx.mono ?_)
   clear hx HS2
   rintro e x2 ⟨rfl,ho2,hg2⟩
   have HO2:=hid ho2
   have HO1':=hid (own_apart HO1.out HRL.out.st.a3 hg2)
   have HB2:Hid (Below w.heap.size w x2):=hid (RchSt.bel' HB1.out HOM.out (by omega) hg2)
   clear ho2 hg2
   have l1:=sortS_length R
   have l2:=sortS_length Ms
   have HF:Hid (GotRM w (sortS R,sortS Ms) (.returned (.tuple #[.slice ar R.length cr,.slice am Ms.length cm])) x2):=hid ⟨ar,cr,am,cm,by rw [l1,l2],by rw [l1]; exact own_le HO1'.out (by omega),by rw [l2]; exact own_le HO2.out (by omega),HB2.out⟩
   clear l1 l2 HO1 HO2 HO1' HB1 HB2 HOM HRL
   go_wp2_with fail
   go_ret2
   rw [HE.out]
   exact HF.out
  ·rw [List.concat_eq_append] at hop
   subst hop
   obtain ⟨d1,d2⟩:=d
   obtain ⟨gk,rfl⟩:∃ f,gk=f + 1:=⟨gk - 1,by
    have h1:=HRL.out.me
    have h2:=mea_pop xs op' met (d1,d2)
    omega⟩
   have hokd:OkD (d1,d2):=HRL.out.ok _ (by simp)
   have HOK':Hid (∀ d ∈ op',OkD d):=hid (fun d hd=>HRL.out.ok d (by simp [hd]))
   obtain ⟨g,co,hvo,hco,q0,q1,hst⟩:=HRL.out.st.pop
   have hfm:mea xs op' met + 1<=gk + 1:=by have h1:=HRL.out.me; have h2:=mea_pop xs op' met (d1,d2); omega
   have hnk:=HRL.out.nk
   have hrk:=HRL.out.rk
   have HEQ:=hid HRL.out.eq
   have HME:=hid HRL.out.me
   obtain ⟨m,hm⟩:∃ m,m=op'.length:=⟨_,rfl⟩
   rw [<-hm] at hvo hco q0 q1 hst
   subst hvo
   obtain ⟨ar,cr,rfl,_⟩:=ownsRow_sliceN hst.orr
   obtain ⟨am,cm,rfl,_⟩:=ownsRow_sliceN hst.om
   have HST:=hid hst
   have hml:m<=510000:=by
    have:op'.length<=mea xs op' met:=by unfold mea; omega
    omega
   have hpop:=fun W=>dpop_run g (m + 1) co m (by omega) (by omega) W
   have hsub:((m:Int) + 1 - 1)=(m:Int):=by omega
   have hwr:=HST.out.lt
   obtain ⟨u0,hu0⟩:∃ u0,u0=wr.alloc (.cells #[.int .u64 d1,.int .u64 d2] 41):=⟨_,rfl⟩
   have HST0:Hid (RchSt w u0 (fun d=>decide (d ∈ met)) nm (.slice (some ⟨g,0,none⟩) m co) (.slice ar R.length cr) (.slice am Ms.length cm) op' R Ms):=hid (by rw [hu0]; exact HST.out.alloc _)
   have HK0:Hid (BK wr.heap.size #[.int .u64 d1,.int .u64 d2] 41 u0):=hid (by rw [hu0]; exact BK.new _ _ _)
   have hlk:=HST0.out.mp.look hokd
   have HM:=hid hm
   clear hst hm HRL
   by_cases hmet:(d1,d2) ∈ met
   ·rw [decide_eq_true hmet,hu0] at hlk
    have HRX:Hid (RX xs roots w gk (.slice ar R.length cr) (.slice am Ms.length cm) (.slice (some ⟨g,0,none⟩) m co) (wr.alloc (.cells #[.int .u64 d1,.int .u64 d2] 41))):=hid (by
     rw [<-hu0]
     exact ⟨op',R,Ms,met,nm,HST0.out,by rw [HEQ.out,reachF_met hmet],by omega,by omega,by omega,HOK'.out⟩)
    clear hu0 hmet
    go_wp2_with fail
    go_roundg gk
    case measure=>omega
    case rel=>exact HRX
   ·obtain ⟨u1,hup,hmp1,hgu⟩:=HST0.out.mp.put hokd (by omega)
    have hmp1':=hmp1.eq (M':=fun d=>decide (d ∈ (d1,d2) :: met)) (fun d=>met_or met (d1,d2) d)
    have HST1:=hid (HST0.out.put hmp1' hgu)
    have HK1:Hid (BK wr.heap.size #[.int .u64 d1,.int .u64 d2] 41 u1):=hid (HK0.out.grow1 hgu (by omega))
    have HGT:=hid (HG.out d1 d2 u1 HST1.out.bel)
    rw [decide_eq_false hmet,hu0] at hlk
    rw [hu0] at hup
    have HMT:=hid hmet
    clear hmp1 hmp1' hgu hu0 hmet HST0 HK0 HST
    have b0:u1.cell? ⟨wr.heap.size,0,none⟩=some (.int .u64 d1):=by rw [HK1.out.cell]; rfl
    have b1:u1.cell? ⟨wr.heap.size,1,none⟩=some (.int .u64 d2):=by rw [HK1.out.cell]; rfl
    have HLO:=hid (fun h=>links_ok (xs:=xs) (d:=(d1,d2)) h)
    have HRM:=hid (fun h=>reachF_miss (xs:=xs) (f:=gk) (op:=op') (R:=R) (M:=Ms) HMT.out h)
    have HRH:=hid (fun h=>reachF_hit (xs:=xs) (f:=gk) (op:=op') (R:=R) (M:=Ms) HMT.out h)
    have HMH:=hid (fun (ls:List (Int × Int)) h hl=>mea_hit (xs:=xs) (op:=op') (ls:=ls) HMT.out h hl)
    generalize getS xs (d1,d2)=OE at HGT HLO HRM HRH HMH
    obtain ⟨o,er⟩:=OE
    simp only at HGT HLO HRM HRH HMH
    go_wp2_with fail
    have hx:=HGT.out
    (with_reducible refine hx.mono ?_)
    clear hx HGT hlk hup hpop q0 q1
    rintro e u2 ⟨ea,ec,pa,pc,rfl,hob,hb2⟩
    have HST2:=hid (HST1.out.below hb2)
    have HK2:=hid (HK1.out.below hb2)
    have hz2:=hb2.size
    have HOB:=hid hob
    have hl1:=HK1.out.lt
    obtain ⟨kind,data,ents,⟨t1,t2⟩,pars,author,time,msg⟩:=o
    simp only [Ob.val]
    obtain ⟨u3,hu3⟩:∃ u3,u3=u2.alloc (.cells #[.int .i64 kind,.string ⟨data.toArray⟩,.slice ea ents.length ec,.int .u64 t1,.int .u64 t2,.slice pa pars.length pc,.string ⟨author.toArray⟩,.int .i64 time,.string ⟨msg.toArray⟩] 56):=⟨_,rfl⟩
    have HST3:Hid (RchSt w u3 _ _ _ _ _ _ _ _):=hid (by rw [hu3]; exact HST2.out.alloc _)
    have HK3:Hid (BK wr.heap.size #[.int .u64 d1,.int .u64 d2] 41 u3):=hid (by rw [hu3]; exact HK2.out.alloc _)
    have HKO:Hid (BK u2.heap.size #[.int .i64 kind,.string ⟨data.toArray⟩,.slice ea ents.length ec,.int .u64 t1,.int .u64 t2,.slice pa pars.length pc,.string ⟨author.toArray⟩,.int .i64 time,.string ⟨msg.toArray⟩] 56 u3):=hid (by rw [hu3]; exact BK.new _ _ _)
    have HOB3:Hid (ObOwn u1.heap.size u3 _ _ _ _ _):=hid (by rw [hu3]; exact HOB.out.below ((Below.refl _ _).alloc (Nat.le_refl _) _))
    have hz3:u3.heap.size=u2.heap.size + 1:=by rw [hu3]; simp
    have k0:u2.cell? ⟨wr.heap.size,0,none⟩=some (.int .u64 d1):=by rw [HK2.out.cell]; rfl
    have k1:u2.cell? ⟨wr.heap.size,1,none⟩=some (.int .u64 d2):=by rw [HK2.out.cell]; rfl
    have p0:=fun z=>cell_a1 k0 z
    have p1:=fun z=>cell_a1 k1 z
    clear hob hb2 HK1 HK2 HST2 HOB b0 b1
    by_cases he:er=0
    ·subst he
     obtain ⟨v',u4,hrun,hown',hg',hat'⟩:=append_one HST3.out.orr d1 d2 (by omega) (by have:=HST3.out.lt; omega)
     have HST4:=hid ((HST3.out.alloc (.cells #[.int .u64 d1,.int .u64 d2] 41)).pushR hown' hg' (by simpa using hat'))
     have hrb:∀ k,(Value.slice ar R.length cr).ownBlock=some k->k < u1.heap.size:=fun k hk=>(HST1.out.orr.lt k hk).2
     have HKO4:Hid (BK u2.heap.size #[.int .i64 kind,.string ⟨data.toArray⟩,.slice ea ents.length ec,.int .u64 t1,.int .u64 t2,.slice pa pars.length pc,.string ⟨author.toArray⟩,.int .i64 time,.string ⟨msg.toArray⟩] 56 u4):=hid ((HKO.out.alloc _).grow hg' (fun k hk e=>by have:=hrb k hk; omega))
     have HOB4:=hid ((HOB3.out.below ((Below.refl _ _).alloc (Nat.le_refl _) (.cells #[.int .u64 d1,.int .u64 d2] 41))).keptR hg' hrb)
     have HLK:=hid (links_any _ ea ec pa pc u4 HOB4.out.inn HOB4.out.bb)
     have hll:=links_le ⟨kind,data,ents,(t1,t2),pars,author,time,msg⟩
     have HLO2:=hid (HLO.out rfl)
     have HEQ2:=hid (HRH.out rfl)
     have HMH2:=hid (fun (ls:List (Int × Int)) hl=>HMH.out ls rfl hl)
     rw [hz3,hu3] at hrun
     have HRUN:=hid hrun
     simp only [Ob.val] at HLK
     generalize linksS ⟨kind,data,ents,(t1,t2),pars,author,time,msg⟩=ls at HLK hll HLO2 HEQ2
     clear hrun hown' hg' hat' hu3 HST3 HK3 HKO HOB3 HRM HRH HMH HLO HOB4 hrb HST1
     generalize ents.length=ne at HRUN HLK HKO4 ⊢
     generalize pars.length=np at HRUN HLK HKO4 ⊢
     have o0:u4.cell? ⟨u2.heap.size,0,none⟩=some (.int .i64 kind):=by rw [HKO4.out.cell]; rfl
     have o1:u4.cell? ⟨u2.heap.size,1,none⟩=some (.string ⟨data.toArray⟩):=by rw [HKO4.out.cell]; rfl
     have o2:u4.cell? ⟨u2.heap.size,2,none⟩=some (.slice ea ne ec):=by rw [HKO4.out.cell]; rfl
     have o3:u4.cell? ⟨u2.heap.size,3,none⟩=some (.int .u64 t1):=by rw [HKO4.out.cell]; rfl
     have o4:u4.cell? ⟨u2.heap.size,4,none⟩=some (.int .u64 t2):=by rw [HKO4.out.cell]; rfl
     have o5:u4.cell? ⟨u2.heap.size,5,none⟩=some (.slice pa np pc):=by rw [HKO4.out.cell]; rfl
     have o6:u4.cell? ⟨u2.heap.size,6,none⟩=some (.string ⟨author.toArray⟩):=by rw [HKO4.out.cell]; rfl
     have o7:u4.cell? ⟨u2.heap.size,7,none⟩=some (.int .i64 time):=by rw [HKO4.out.cell]; rfl
     have o8:u4.cell? ⟨u2.heap.size,8,none⟩=some (.string ⟨msg.toArray⟩):=by rw [HKO4.out.cell]; rfl
     have HR1:Hid (R.length + 1=(R ++ [(d1,d2)]).length):=hid (by simp)
     generalize hR':R ++ [(d1,d2)]=R' at HST4 HEQ2 HR1
     clear hR'
     generalize R.length=nR at HRUN hrk HR1 ⊢
     obtain ⟨ar',cr',rfl,_⟩:=ownsRow_sliceN HST4.out.orr
     go_wp2_with (at_builtin; refine Lib.wpList_append_run _ rfl _ _ _ _ rfl _ _ rfl rfl _ _ HRUN.out ?_)
     have hx:=HLK.out
     (with_reducible refine hx.mono ?_)
     clear hx HLK HRUN p0 p1 k0 k1
     rintro e u5 ⟨la,lc,rfl,hols,hb5⟩
     have HST5:=hid (HST4.out.below hb5)
     have HLS:=hid hols
     have HAL:Hid (Apart (.slice (some ⟨g,0,none⟩) m co) (.slice la ls.length lc)):=hid (fun k h1 h2=>by have:=(HST4.out.oo.lt k h1).2; have:=(hols.lt k h2).1; omega)
     obtain ⟨B,hB⟩:∃ B,B=u4.heap.size:=⟨_,rfl⟩
     rw [<-hB] at HLS
     obtain ⟨nl,hnl⟩:∃ nl,nl=ls.length:=⟨_,rfl⟩
     rw [<-hnl] at hll HLS HAL ⊢
     have HNL:=hid hnl
     clear hols hb5 o0 o1 o2 o3 o4 o5 o6 o7 o8 HKO4 HST4 hB hnl
     go_wp2_with fail
     go_loopw [9,58] (fun v i wx=>∃ j:Nat,j<=nl/\i = .int .i64 j/\Hid (RchSt w wx (fun d=>decide (d ∈ (d1,d2) :: met)) (nm + 1) v (.slice ar' R'.length cr') (.slice am Ms.length cm) (op' ++ (ls.take j).filter fun l=>!decide (l ∈ (d1,d2) :: met)) R' Ms)/\Hid (wx.ownsRow B 41 2 (.slice la nl lc) nl (dcells ls))/\Hid (Apart v (.slice la nl lc))) (fun _ i _=>nl - (intOf i).toNat)
     case atStart=>exact ⟨0,by omega,rfl,by simpa using HST5,HLS,HAL⟩
     case round=>
      clear HST5 HLS HAL
      obtain ⟨j,hj,rfl,HSX,HLX,HAX⟩:=hrel
      have hfl:(op' ++ (ls.take j).filter fun l=>!decide (l ∈ (d1,d2) :: met)).length<=520000:=by
       rw [List.length_append]
       have h1:=List.length_filter_le (fun l=>!decide (l ∈ (d1,d2) :: met)) (ls.take j)
       have h2:(ls.take j).length<=j:=List.length_take_le _ _
       have h3:=HM.out
       omega
      obtain ⟨av,cv,rfl,hcv⟩:=ownsRow_sliceN HSX.out.oo
      by_cases hjl:j < nl
      ·have h1:j < ls.length:=by rw [<-HNL.out]; exact hjl
       have hdg:Digs wr.heap.size wr la ls:=own_digs HNL.out HLX.out
       obtain ⟨b0,o0,rfl,hb0,q0,q1⟩:=hdg j h1
       have HFT:=hid (filter_take_succ (fun l=>!decide (l ∈ (d1,d2) :: met)) ls j h1)
       have hokl:=HLO2.out _ (List.getElem_mem h1)
       generalize ls[j]=lk at q0 q1 HFT hokl
       obtain ⟨l1,l2⟩:=lk
       simp only at q0 q1
       have HSX1:=hid (HSX.out.alloc (.cells #[.int .u64 l1,.int .u64 l2] 41))
       have HLX1:=hid (HLX.out.alloc (.cells #[.int .u64 l1,.int .u64 l2] 41))
       have hlk:=HSX1.out.mp.look hokl
       have hwx:=HSX.out.lt
       have hjl':(j:Int) < (nl:Int):=by omega
       clear hdg
       by_cases hml2:(l1,l2) ∈ (d1,d2) :: met
       ·rw [decide_eq_true hml2] at hlk
        have hF:(op' ++ (ls.take j).filter fun l=>!decide (l ∈ (d1,d2) :: met))=op' ++ (ls.take (j + 1)).filter fun l=>!decide (l ∈ (d1,d2) :: met):=by rw [HFT.out,if_neg (by simp [hml2]),List.append_nil]
        have HSX2:Hid (RchSt w (wr.alloc (.cells #[.int .u64 l1,.int .u64 l2] 41)) (fun d=>decide (d ∈ (d1,d2) :: met)) (nm + 1) (.slice av (op' ++ (ls.take j).filter fun l=>!decide (l ∈ (d1,d2) :: met)).length cv) (.slice ar' R'.length cr') (.slice am Ms.length cm) (op' ++ (ls.take (j + 1)).filter fun l=>!decide (l ∈ (d1,d2) :: met)) R' Ms):=hid (by rw [<-hF]; exact HSX1.out)
        clear HSX1 HFT hml2 hF HSX HLX
        generalize (op' ++ (ls.take j).filter fun l=>!decide (l ∈ (d1,d2) :: met)).length=nf at HSX2 HAX hcv hfl ⊢
        go_wp2_with fail
        go_roundw
        case rel=>exact ⟨j + 1,by omega,by go_num,HSX2,HLX1,HAX⟩
        case measure=>simp [intOf]; omega
       ·rw [decide_eq_false hml2] at hlk
        obtain ⟨v2,x2,hrun,hown',hg',hat'⟩:=append_one HSX1.out.oo l1 l2 (by omega) (by simp; omega)
        have hF:(op' ++ (ls.take j).filter fun l=>!decide (l ∈ (d1,d2) :: met)) ++ [(l1,l2)]=op' ++ (ls.take (j + 1)).filter fun l=>!decide (l ∈ (d1,d2) :: met):=by rw [HFT.out,if_pos (by simp only [Bool.not_eq_true',decide_eq_false_iff_not]; exact hml2),List.append_assoc]
        rw [hF] at hown'
        have HSX2:=hid ((HSX1.out.alloc (.cells #[.int .u64 l1,.int .u64 l2] 41)).pushO hown' hg' (by simpa using hat'))
        have HLX2:=hid (own_apart (HLX1.out.alloc _) HAX.out.symm hg')
        have HAX2:=hid (apart_step (N:=wr.heap.size + 1 + 1) (HLX1.out.alloc (.cells #[.int .u64 l1,.int .u64 l2] 41)) HAX.out.symm (by simpa using hat') (by simp)).symm
        rw [show (wr.alloc (.cells #[.int .u64 l1,.int .u64 l2] 41)).heap.size=wr.heap.size + 1 by simp] at hrun
        have HRUN:=hid hrun
        clear hrun hown' hg' hat' hF HSX1 HLX1 HFT hml2 HSX HLX HAX
        generalize (op' ++ (ls.take j).filter fun l=>!decide (l ∈ (d1,d2) :: met)).length=nf at HRUN hcv hfl ⊢
        go_wp2_with (at_builtin; refine Lib.wpList_append_run _ rfl _ _ _ _ rfl _ _ rfl rfl _ _ HRUN.out ?_)
        go_roundw
        case rel=>exact ⟨j + 1,by omega,by go_num,HSX2,HLX2,HAX2⟩
        case measure=>simp [intOf]; omega
      ·have hfull:ls.take j=ls:=List.take_of_length_le (by rw [<-HNL.out]; omega)
       rw [hfull] at HSX hcv hfl ⊢
       have HRX:Hid (RX xs roots w gk (.slice ar' R'.length cr') (.slice am Ms.length cm) (.slice av (op' ++ ls.filter fun l=>!decide (l ∈ (d1,d2) :: met)).length cv) wr):=Lib.hid
        ⟨_,R',Ms,(d1,d2) :: met,nm + 1,HSX.out,by rw [HEQ.out]; exact HEQ2.out,by
         have h1:=HMH2.out (ls.filter fun l=>!decide (l ∈ (d1,d2) :: met)) (by have:=List.length_filter_le (fun l=>!decide (l ∈ (d1,d2) :: met)) ls; have:=HNL.out; omega)
         have h2:=HME.out
         omega,by omega,by have:=HR1.out; omega,fun d hd=>by
         rcases List.mem_append.1 hd with h | h
         ·exact HOK'.out d h
         ·exact HLO2.out d (List.mem_filter.1 h).1⟩
       clear HSX HLX HAX hfull HEQ2 HMH2
       generalize (op' ++ ls.filter fun l=>!decide (l ∈ (d1,d2) :: met)).length=nf at HRX hcv hfl ⊢
       go_wp2_with fail
       go_roundg gk
       case measure=>omega
       case rel=>exact HRX
    ·have hne:(er != 0)=true:=by simpa using he
     obtain ⟨v',u4,hrun,hown',hg',hat'⟩:=append_one HST3.out.om d1 d2 (by omega) (by have:=HST3.out.lt; omega)
     have HST4:=hid ((HST3.out.alloc (.cells #[.int .u64 d1,.int .u64 d2] 41)).pushM hown' hg' (by simpa using hat'))
     have HRX:Hid (RX xs roots w gk (.slice ar R.length cr) v' (.slice (some ⟨g,0,none⟩) m co) u4):=Lib.hid
      ⟨op',R,Ms ++ [(d1,d2)],(d1,d2) :: met,nm + 1,HST4.out,by rw [HEQ.out]; exact HRM.out he,by have h1:=mea_miss xs op' met (d1,d2); have h2:=HME.out; omega,by omega,by simp; omega,HOK'.out⟩
     rw [hz3,hu3] at hrun
     have HRUN:=hid hrun
     clear hrun hown' hg' hat' hu3 he HST4 HST3 HK3 HKO HOB3 HRM HRH HMH HLO
     generalize ents.length=ne at HRUN ⊢
     generalize pars.length=np at HRUN ⊢
     generalize Ms.length=nM at HRUN ⊢
     go_wp2_with (at_builtin; refine Lib.wpList_append_run _ rfl _ _ _ _ rfl _ _ rfl rfl _ _ HRUN.out ?_)
     go_roundg gk
     case measure=>omega
     case rel=>exact HRX
theorem wrapU_ok (x:Int):u64B (IntKind.u64.wrap x):=by
 rw [wrap_u64]
 unfold u64B
 omega
theorem bits_ok (op:BinOp) (x y:Int):u64B (bits op .u64 x y):=by
 unfold bits
 exact wrapU_ok _
theorem fold_ok {f:Int->UInt8->Int} (hf:∀ x c,u64B (f x c)):∀ (l:List UInt8) (x:Int),u64B x->u64B (l.foldl f x)
 | [],_,h=>h
 | c :: l,x,_=>by rw [List.foldl_cons]; exact fold_ok hf l _ (hf x c)
theorem digS_ok (l:List UInt8):OkD (digS l):=by
 unfold digS
 split
 ·exact ⟨⟨by decide,by decide⟩,by decide,by decide⟩
 ·exact ⟨fold_ok (fun x c=>wrapU_ok _) l _ ⟨by decide,by decide⟩,fold_ok (fun x c=>bits_ok _ _ _) l _ ⟨by decide,by decide⟩⟩
theorem digS_ne (l:List UInt8):digS l ≠ (0,0):=by
 unfold digS
 split
 ·intro h; cases h
 ·rename_i h1
  intro h
  simp only [Prod.mk.injEq] at h
  exact h1 h
def ob1:Ob:=⟨1,[120],[],(0,0),[],[],0,[]⟩
def blobD:Int × Int:=digS [1,1,120]
def ob2:Ob:=⟨2,[],[⟨[97],false,blobD⟩],(0,0),[],[],0,[]⟩
def tx2:List UInt8:=bodyO ob2
theorem ob1_enc:encodeS ob1=([1,1,120],0):=by decide +kernel
theorem ob1_name:nameS ob1=(blobD,0):=by unfold nameS; rw [ob1_enc]; simp [blobD]
theorem ob2_enc:encodeS ob2=(tx2,0):=by decide +kernel
theorem blob_ne:blobD ≠ digS tx2:=by decide +kernel
theorem blob_ok:OkD blobD:=digS_ok [1,1,120]
theorem ent_ok (b:Int × Int) (h:OkD b):OkD (Ent.mk [97] false b).d:=h
theorem ent_nn (b:Int × Int) (h:OkD b):0<=(Ent.mk [97] false b).d.1/\0<=(Ent.mk [97] false b).d.2:=⟨h.1.1,h.2.1⟩
theorem ent_nm (b:Int × Int):((Ent.mk [97] false b).name.length:Int)<=65536:=by simp
theorem ob2_ok:OkO ob2:=⟨OkD_zero,by simp [ob2],by
 intro e he
 have he2:e=⟨[97],false,blobD⟩:=List.mem_singleton.1 he
 rw [he2]
 exact ent_ok blobD blob_ok⟩
theorem ins2 (x:Itm):insS [] x=([x],0):=rfl
theorem put2:putS [] ob2=([⟨digS tx2,tx2⟩],digS tx2,0):=by
 unfold putS
 rw [ob2_enc]
 simp only [ins2]
 rfl
theorem get2:getS [⟨digS tx2,tx2⟩] (digS tx2)=(ob2,0):=by
 have h:posI [⟨digS tx2,tx2⟩] (digS tx2)=0:=by unfold posI; rw [List.takeWhile_cons_of_neg (by simp [cmpD_self])]; rfl
 unfold getS
 rw [h]
 simp [decode_put ob2_enc ob2_ok]
theorem get1:getS [⟨digS tx2,tx2⟩] blobD=(obZ,8):=by
 unfold getS
 split
 ·rename_i y hy
  have:y ∈ [(⟨digS tx2,tx2⟩:Itm)]:=List.mem_of_getElem? hy
  rw [List.mem_singleton] at this
  subst this
  rw [if_neg (fun e=>blob_ne e.symm)]
 ·rfl
theorem links2:linksS ob2=[blobD]:=by
 unfold linksS
 rw [ob2_enc]
 simp [ob2]
theorem reach2:reachS [⟨digS tx2,tx2⟩] [digS tx2]=([digS tx2],[blobD]):=by
 have h:reachF [⟨digS tx2,tx2⟩] (fuelR [⟨digS tx2,tx2⟩] [digS tx2]) [digS tx2] [(0,0)] [] []=([digS tx2],[blobD]):=by
  have hf:fuelR [⟨digS tx2,tx2⟩] [digS tx2]=1000 + 1:=rfl
  rw [hf]
  have e1:=reachF_hit (xs:=[⟨digS tx2,tx2⟩]) (f:=1000) (op:=[]) (met:=[(0,0)]) (R:=[]) (M:=[]) (d:=digS tx2) (by simp; exact digS_ne _) (by rw [get2])
  rw [List.nil_append,get2] at e1
  simp only at e1
  rw [e1,links2]
  have e2:([] ++ ([blobD].filter fun l=>!decide (l ∈ digS tx2 :: [((0:Int),(0:Int))])))=[] ++ [blobD]:=by
   have:blobD ∉ digS tx2 :: [((0:Int),(0:Int))]:=by simp; exact ⟨blob_ne,digS_ne _⟩
   simp only [List.filter_cons,List.filter_nil,decide_eq_false this]
   simp
  rw [e2]
  have e3:=reachF_miss (xs:=[⟨digS tx2,tx2⟩]) (f:=999) (op:=[]) (met:=digS tx2 :: [(0,0)]) (R:=[digS tx2]) (M:=[]) (d:=blobD) (by simp; exact ⟨blob_ne,digS_ne _⟩) (by rw [get1]; decide)
  rw [show (1000:Nat)=999 + 1 from rfl,e3,reachF_nil]
  rfl
 unfold reachS
 rw [h]
 simp [sortS]
theorem ob1_b:ObB ob1:=⟨by decide,by simp [ob1],by simp [ob1],by decide,by simp [ob1],by decide,by decide,by decide,by decide⟩
theorem ob2_b:ObB ob2:=⟨by decide,by
 intro e he
 have he2:e=⟨[97],false,blobD⟩:=List.mem_singleton.1 he
 rw [he2]
 exact ent_nm blobD,by
 intro e he
 have he2:e=⟨[97],false,blobD⟩:=List.mem_singleton.1 he
 rw [he2]
 exact ent_nn blobD blob_ok,by decide,by simp [ob2],by decide,by decide,by decide,by decide⟩
theorem ents2 {W:World} {b:Nat} (h:BK b #[.string ⟨#[97]⟩,.bool false,.int .u64 blobD.1,.int .u64 blobD.2] 121 W):Ents W.heap.size W (some ⟨b,0,none⟩) ob2.ents:=by
 intro i hi
 obtain rfl:i=0:=by simp [ob2] at hi; omega
 exact ⟨b,0,rfl,h.lt,by rw [h.cell]; rfl,by rw [h.cell]; rfl,by rw [h.cell]; rfl,by rw [h.cell]; rfl⟩
theorem digs1 {W:World} {b:Nat} {d1 d2:Int} (h:BK b #[.int .u64 d1,.int .u64 d2] 41 W):Digs W.heap.size W (some ⟨b,0,none⟩) [(d1,d2)]:=by
 intro i hi
 obtain rfl:i=0:=by simp at hi; omega
 exact ⟨b,0,rfl,h.lt,by rw [h.cell]; rfl,by rw [h.cell]; rfl⟩
open Go.ChangeShapes Go.WideShapes Go.ChangeAt Go.RowKit Go.Deep
theorem list_of {α:Type} (Q:Nat->α->Prop):∀ (n:Nat),(∀ i,i < n->∃ x,Q i x)->∃ l:List α,l.length=n/\∀ i (h:i < l.length),Q i l[i]
 | 0,_=>⟨[],rfl,fun i h=>by simp at h⟩
 | n + 1,h=>by
  obtain ⟨l,hl,hq⟩:=list_of Q n (fun i hi=>h i (by omega))
  obtain ⟨x,hx⟩:=h n (by omega)
  refine ⟨l ++ [x],by simp [hl],fun i hi=>?_⟩
  by_cases he:i < l.length
  ·rw [List.getElem_append_left he]; exact hq i he
  ·obtain rfl:i=l.length:=by simp at hi; omega
   simpa [hl] using hx
section
variable {H:Type} {enc:TypeId × Value->H} {W:World}
theorem open_rows {t e:TypeId} {C:Nat} {a:Option Addr} {len cap fuel:Nat} {x:DataW H × List MemPlace} (ht:Tryz.prog.underlying t=some (.slice e)) (hC:Tryz.prog.cellsOf e=C) (h0:0 < C)
  (h:DataW.trod enc Tryz.prog W 0 (fun _=>true) true fuel t [.slice a len cap]=some x) :
  (len<=cap/\cap<=maxLen)/\∀ i,i < len->∃ b off cs n y,a=some ⟨b,off,none⟩/\b < W.heap.size/\cs.length=C/\(∀ (j:Nat) (v:Value),cs[j]? = some v->W.cell? ⟨b,off + i * C + j,none⟩=some v)/\DataW.trod enc Tryz.prog W 0 (fun _=>true) true n e cs=some y:=by
 rcases open_slice ht h with ⟨hcs,_⟩ | ⟨ad,l,c,m,n,D,Pl,hcs,_,hl,hm,hmm,_,hi⟩
 ·simp at hcs
  obtain ⟨rfl,rfl,rfl⟩:=hcs
  exact ⟨⟨Nat.le_refl _,Nat.zero_le _⟩,fun i hi=>by omega⟩
 ·simp at hcs
  obtain ⟨rfl,rfl,rfl⟩:=hcs
  refine ⟨⟨hl,hm⟩,fun i hlt=>?_⟩
  simp only [if_true] at hmm
  obtain ⟨cs0,hc0,_⟩:=hi 0 (by omega)
  obtain ⟨_,hcl0,hat0⟩:=World.cells?_some hc0
  rw [hC] at hcl0 hat0
  obtain ⟨b,off,spot⟩:=ad
  have e0:W.cell? ((⟨b,off,spot⟩:Addr).add 0)=some (cs0[0]'(by omega)):=by
   have:=hat0 0 h0
   rw [List.getElem?_eq_getElem (by omega)] at this
   simpa [Addr.add] using this
  have hspot:spot=none:=by simpa [Addr.add] using World.cell?_spot e0
  subst hspot
  obtain ⟨cs',hc,ht'⟩:=hi i (by omega)
  obtain ⟨_,hcl,hat⟩:=World.cells?_some hc
  rw [hC] at hcl hat
  have hlt0:b < W.heap.size:=by
   unfold World.cell? at e0
   simp only [Addr.add,if_true] at e0
   cases ho:W.heap[b]? with
   | none=>simp [ho] at e0
   | some o=>exact (Array.getElem?_eq_some_iff.1 ho).1
  refine ⟨b,off,cs',n,_,rfl,hlt0,hcl,fun j v hj=>?_,ht'⟩
  have hjl:j < C:=by rw [<-hcl]; exact (List.getElem?_eq_some_iff.1 hj).1
  have:=hat j hjl
  rw [hj,Go.WideShapes.add_plain,Go.WideShapes.add_plain] at this
  exact this
theorem trod_digest {fuel:Nat} {cs:List Value} {x:DataW H × List MemPlace} (h:DataW.trod enc Tryz.prog W 0 (fun _=>true) true fuel 41 cs=some x):∃ p:Int × Int,cs=[.int .u64 p.1,.int .u64 p.2]/\(Lit.int .u64 p.1).wf=true/\(Lit.int .u64 p.2).wf=true:=by
 obtain ⟨xs,n,_,_,hl,hxl,hf⟩:=DataW.trod_array Tryz.underlying41 h
 rw [show Tryz.prog.cellsOf 41 = 2 by kernel_rfl] at hl
 match cs,hl with
 | [c0,c1],_=>
  match xs,hxl with
  | [x0,x1],_=>
   obtain ⟨o,e0,_,w0⟩:=DataW.trod_int Tryz.underlying39 (show DataW.trod enc Tryz.prog W 0 (fun _=>true) true n 39 [c0]=some x0 from hf 0 (by decide))
   obtain ⟨s,e1,_,w1⟩:=DataW.trod_int Tryz.underlying39 (show DataW.trod enc Tryz.prog W 0 (fun _=>true) true n 39 [c1]=some x1 from hf 1 (by decide))
   cases e0
   cases e1
   exact ⟨(o,s),rfl,w0,w1⟩
def DigsOk (ds:List (Int × Int)):Prop:=∀ d ∈ ds,(Lit.int .u64 d.1).wf=true/\(Lit.int .u64 d.2).wf=true
theorem open_digs {a:Option Addr} {len cap fuel:Nat} {x:DataW H × List MemPlace} (h:DataW.trod enc Tryz.prog W 0 (fun _=>true) true fuel 24 [.slice a len cap]=some x):(len<=cap/\cap<=maxLen)/\∃ ds:List (Int × Int),len=ds.length/\Digs W.heap.size W a ds/\DigsOk ds:=by
 obtain ⟨hl,hr⟩:=open_rows Tryz.underlying24 (C:=2) (by kernel_rfl) (by decide) h
 obtain ⟨ds,hds,hq⟩:=list_of (fun i (p:Int × Int)=>(∃ b off,a=some ⟨b,off,none⟩/\b < W.heap.size/\W.cell? ⟨b,off + i * 2,none⟩=some (.int .u64 p.1)/\W.cell? ⟨b,off + i * 2 + 1,none⟩=some (.int .u64 p.2))/\(Lit.int .u64 p.1).wf=true/\(Lit.int .u64 p.2).wf=true) len (fun i hi=>by
  obtain ⟨b,off,cs,n,y,ha,hb,_,hcell,ht⟩:=hr i hi
  obtain ⟨p,rfl,w0,w1⟩:=trod_digest ht
  exact ⟨p,⟨b,off,ha,hb,hcell 0 _ rfl,hcell 1 _ rfl⟩,w0,w1⟩)
 refine ⟨hl,ds,hds.symm,fun i hi=>(hq i hi).1,fun d hd=>?_⟩
 obtain ⟨i,hi,rfl⟩:=List.getElem_of_mem hd
 exact (hq i hi).2
theorem trod_slice_val {t e:TypeId} {fuel:Nat} {c:Value} {x:DataW H × List MemPlace} (ht:Tryz.prog.underlying t=some (.slice e)) (h:DataW.trod enc Tryz.prog W 0 (fun _=>true) true fuel t [c]=some x):∃ a len cap,c = .slice a len cap:=by
 rcases open_slice ht h with ⟨hcs,_⟩ | ⟨ad,l,c,m,n,D,Pl,hcs,_⟩
 ·simp at hcs; exact ⟨_,_,_,hcs⟩
 ·simp at hcs; exact ⟨_,_,_,hcs⟩
theorem okD_wf {d:Int × Int} (h0:(Lit.int .u64 d.1).wf=true) (h1:(Lit.int .u64 d.2).wf=true):OkD d:=by
 simp [Lit.wf,IntKind.min,IntKind.max,IntKind.signed,IntKind.bits] at h0 h1
 exact ⟨⟨by omega,by omega⟩,by omega,by omega⟩
theorem trod_ent {fuel:Nat} {cs:List Value} {x:DataW H × List MemPlace} (h:DataW.trod enc Tryz.prog W 0 (fun _=>true) true fuel 121 cs=some x):∃ e:Ent,cs=[.string ⟨e.name.toArray⟩,.bool e.dir,.int .u64 e.d.1,.int .u64 e.d.2]/\OkD e.d/\e.name.length<=maxLen:=by
 obtain ⟨xs,n,_,_,hl,hxl,hf⟩:=DataW.trod_struct Tryz.underlying121 h
 rw [show Tryz.prog.cellsOf 121 = 4 by kernel_rfl] at hl
 match cs,hl with
 | [c0,c1,c2,c3],_=>
  match xs,hxl with
  | [x0,x1,x2],_=>
   obtain ⟨s,e0,_,ws⟩:=DataW.trod_string Tryz.underlying9 (show DataW.trod enc Tryz.prog W 0 (fun _=>true) true n 9 [c0]=some x0 from hf 0 _ rfl)
   obtain ⟨b,e1,_⟩:=DataW.trod_bool Tryz.underlying4 (show DataW.trod enc Tryz.prog W 0 (fun _=>true) true n 4 [c1]=some x1 from hf 1 _ rfl)
   obtain ⟨d,e2,w0,w1⟩:=trod_digest (show DataW.trod enc Tryz.prog W 0 (fun _=>true) true n 41 [c2,c3]=some x2 from hf 2 _ rfl)
   cases e0
   cases e1
   cases e2
   exact ⟨⟨s.data.toList,b,d⟩,by rw [<-ba_eq (t:=s) rfl],okD_wf w0 w1,ws⟩
theorem open_ents {a:Option Addr} {len cap fuel:Nat} {x:DataW H × List MemPlace} (h:DataW.trod enc Tryz.prog W 0 (fun _=>true) true fuel 54 [.slice a len cap]=some x):(len<=cap/\cap<=maxLen)/\∃ es:List Ent,len=es.length/\Ents W.heap.size W a es/\∀ e ∈ es,OkD e.d/\e.name.length<=maxLen:=by
 obtain ⟨hl,hr⟩:=open_rows Tryz.underlying54 (C:=4) (by kernel_rfl) (by decide) h
 obtain ⟨es,hes,hq⟩:=list_of (fun i (e:Ent)=>(∃ b off,a=some ⟨b,off,none⟩/\b < W.heap.size/\W.cell? ⟨b,off + i * 4,none⟩=some (.string ⟨e.name.toArray⟩)/\W.cell? ⟨b,off + i * 4 + 1,none⟩=some (.bool e.dir)/\W.cell? ⟨b,off + i * 4 + 2,none⟩=some (.int .u64 e.d.1)/\W.cell? ⟨b,off + i * 4 + 3,none⟩=some (.int .u64 e.d.2))/\OkD e.d/\e.name.length<=maxLen) len (fun i hi=>by
  obtain ⟨b,off,cs,n,y,ha,hb,_,hcell,ht⟩:=hr i hi
  obtain ⟨e,rfl,w0,w1⟩:=trod_ent ht
  exact ⟨e,⟨b,off,ha,hb,hcell 0 _ rfl,hcell 1 _ rfl,hcell 2 _ rfl,hcell 3 _ rfl⟩,w0,w1⟩)
 refine ⟨hl,es,hes.symm,fun i hi=>(hq i hi).1,fun e he=>?_⟩
 obtain ⟨i,hi,rfl⟩:=List.getElem_of_mem he
 exact (hq i hi).2
structure ObCame (W:World) (o:Ob) (ea:Option Addr) (ec:Nat) (pa:Option Addr) (pc:Nat):Prop where
 ents:Ents W.heap.size W ea o.ents
 pars:Digs W.heap.size W pa o.pars
 ecap:o.ents.length<=ec/\ec<=maxLen
 pcap:o.pars.length<=pc/\pc<=maxLen
 ok:OkO o
 enam:∀ e ∈ o.ents,e.name.length<=maxLen
 dlen:o.data.length<=maxLen
 alen:o.author.length<=maxLen
 mlen:o.msg.length<=maxLen
theorem trod_ob {fuel:Nat} {cs:List Value} {x:DataW H × List MemPlace} (h:DataW.trod enc Tryz.prog W 0 (fun _=>true) true fuel 56 cs=some x) :
  ∃ (o:Ob) (ea:Option Addr) (ec:Nat) (pa:Option Addr) (pc:Nat),cs=(o.arr ea ec pa pc).toList/\ObCame W o ea ec pa pc:=by
 obtain ⟨xs,n,_,_,hl,hxl,hf⟩:=DataW.trod_struct Tryz.underlying56 h
 rw [show Tryz.prog.cellsOf 56 = 9 by kernel_rfl] at hl
 match cs,hl with
 | [c0,c1,c2,c3,c4,c5,c6,c7,c8],_=>
  match xs,hxl with
  | [x0,x1,x2,x3,x4,x5,x6,x7],_=>
   obtain ⟨kind,e0,_,_⟩:=DataW.trod_int Tryz.underlying3 (show DataW.trod enc Tryz.prog W 0 (fun _=>true) true n 3 [c0]=some x0 from hf 0 _ rfl)
   obtain ⟨s1,e1,_,w1⟩:=DataW.trod_string Tryz.underlying9 (show DataW.trod enc Tryz.prog W 0 (fun _=>true) true n 9 [c1]=some x1 from hf 1 _ rfl)
   have h2:DataW.trod enc Tryz.prog W 0 (fun _=>true) true n 54 [c2]=some x2:=hf 2 _ rfl
   obtain ⟨d,e3,w30,w31⟩:=trod_digest (show DataW.trod enc Tryz.prog W 0 (fun _=>true) true n 41 [c3,c4]=some x3 from hf 3 _ rfl)
   have h4:DataW.trod enc Tryz.prog W 0 (fun _=>true) true n 24 [c5]=some x4:=hf 4 _ rfl
   obtain ⟨s5,e5,_,w5⟩:=DataW.trod_string Tryz.underlying9 (show DataW.trod enc Tryz.prog W 0 (fun _=>true) true n 9 [c6]=some x5 from hf 5 _ rfl)
   obtain ⟨time,e6,_,_⟩:=DataW.trod_int Tryz.underlying3 (show DataW.trod enc Tryz.prog W 0 (fun _=>true) true n 3 [c7]=some x6 from hf 6 _ rfl)
   obtain ⟨s7,e7,_,w7⟩:=DataW.trod_string Tryz.underlying9 (show DataW.trod enc Tryz.prog W 0 (fun _=>true) true n 9 [c8]=some x7 from hf 7 _ rfl)
   obtain ⟨ea,el,ec,rfl⟩:=trod_slice_val Tryz.underlying54 h2
   obtain ⟨pa,pl,pc,rfl⟩:=trod_slice_val Tryz.underlying24 h4
   obtain ⟨hec,es,rfl,hes,hok⟩:=open_ents h2
   obtain ⟨hpc,ps,rfl,hps,hpok⟩:=open_digs h4
   cases e0
   cases e1
   cases e3
   cases e5
   cases e6
   cases e7
   refine ⟨⟨kind,s1.data.toList,es,d,ps,s5.data.toList,time,s7.data.toList⟩,ea,ec,pa,pc,?_,hes,hps,hec,hpc,⟨okD_wf w30 w31,fun p hp=>okD_wf (hpok p hp).1 (hpok p hp).2,fun e he=>(hok e he).1⟩,fun e he=>(hok e he).2,w1,w5,w7⟩
   simp only
theorem ObCame.inn {o:Ob} {ea:Option Addr} {ec:Nat} {pa:Option Addr} {pc:Nat} (h:ObCame W o ea ec pa pc):ObIn W o ea ec pa pc:=by
 have h1:=h.ecap
 have h2:=h.pcap
 have h3:=h.dlen
 have h4:=h.alen
 have h5:=h.mlen
 unfold maxLen at h1 h2 h3 h4 h5
 exact ⟨h.ents,h.pars,h2.1,by omega,fun e he=>by have:=h.enam e he; unfold maxLen at this; omega,fun e he=>⟨(h.ok.2.2 e he).1.1,(h.ok.2.2 e he).2.1⟩,by omega,fun d hd=>⟨(h.ok.2.1 d hd).1.1,(h.ok.2.1 d hd).2.1⟩,⟨h.ok.1.1.1,h.ok.1.2.1⟩,by omega,by omega,by omega⟩
end
theorem eqD_run (d:Nat) (x y x' y':Int) (W:World):(Op.equalIn (d + 2) 41 (.agg #[.int .u64 x,.int .u64 y]) (.agg #[.int .u64 x',.int .u64 y'])).run Tryz.prog W = .ok (x == x' && y == y') W:=by
 obtain ⟨i0,hi0,_,hs,_⟩:=info_parts infoU64
 have h:=run_equalIn_array W (d + 1) #[.int .u64 x,.int .u64 y] #[.int .u64 x',.int .u64 y'] Tryz.underlying41 hi0
 rw [cellsU64,show List.range 2=[0,1] from rfl] at h
 rw [h]
 have p0:∀ (a b:Int) (V:World),(Go.part 39 #[.int .u64 a,.int .u64 b] (0 * 1)).run Tryz.prog V = .ok (.int .u64 a) V:=fun a b V=>run_part_plain V plainU64 rfl
 have p1:∀ (a b:Int) (V:World),(Go.part 39 #[.int .u64 a,.int .u64 b] (1 * 1)).run Tryz.prog V = .ok (.int .u64 b) V:=fun a b V=>run_part_plain V plainU64 rfl
 have q:∀ (a b:Int) (V:World),(Op.equalIn (d + 1) 39 (.int .u64 a) (.int .u64 b)).run Tryz.prog V = .ok (a == b) V:=fun a b V=>run_equalIn_int V d _ _ _ a b Tryz.underlying39
 simp only [Op.eqItems,Sem.run_bind,p0,q,Result.andThen_ok]
 have p1':∀ (a b:Int) (V:World),(Go.part 39 #[.int .u64 a,.int .u64 b] 1).run Tryz.prog V = .ok (.int .u64 b) V:=p1
 by_cases h1:x=x' <;> by_cases h3:y=y' <;> simp [h1,h3,p1',q]
theorem neq_itm (x1 x2 y1 y2:Int) (s t:ByteArray) (W:World):(binOp .neq 63 (.agg #[.int .u64 x1,.int .u64 x2,.string s]) (.agg #[.int .u64 y1,.int .u64 y2,.string t])).run Tryz.prog W = .ok (.bool (!((x1 == y1 && x2 == y2) && s.toList == t.toList))) W:=by
 rw [run_neq_struct,run_equalIn_struct W 9999 63 _ _ (by kernel_rfl) (by kernel_rfl)]
 have hf : (Tryz.prog.fieldsOf 63).toList = [{ name := "Digest", type := 41, offset := 0, embedded := false, tag := "", pkgPath := "", byteOffset := 0 }, { name := "Data", type := 9, offset := 2, embedded := false, tag := "", pkgPath := "", byteOffset := 16 }] := by kernel_rfl
 rw [hf]
 have p0:∀ (a b:Int) (r:ByteArray) (V:World),(Go.part 41 #[.int .u64 a,.int .u64 b,.string r] 0).run Tryz.prog V = .ok (.agg #[.int .u64 a,.int .u64 b]) V:=fun a b r V=>by kernel_rfl
 have p2:∀ (a b:Int) (r:ByteArray) (V:World),(Go.part 9 #[.int .u64 a,.int .u64 b,.string r] 2).run Tryz.prog V = .ok (.string r) V:=fun a b r V=>by kernel_rfl
 have q0:=fun V=>eqD_run 9997 x1 x2 y1 y2 V
 have q1:=fun V=>run_equalIn_string (P:=Tryz.prog) V 9998 9 s t Tryz.underlying9
 simp only [Op.eqFields,Sem.run_bind,Sem.run_ite,p0,p2,q0,q1,Result.andThen_ok]
 cases h1:(x1 == y1 && x2 == y2) <;> cases h2:(s.toList == t.toList) <;> simp
theorem same_any (a b:Option Addr) (ds es:List Itm) (c c':Nat) (w:World) (h:Its w.heap.size w a ds) (h':Its w.heap.size w b es) (hn:(ds.length:Int)<=1000000000) (hn':(es.length:Int)<=1000000000) :
  Calls Tryz.prog 24 #[.slice a ds.length c,.slice b es.length c'] w fun e w'=>e = .returned (.bool (decide (ds=es)))/\Below w.heap.size w w':=by
 obtain ⟨R,hR⟩:∃ R,R=decide (ds=es):=⟨_,rfl⟩
 rw [<-hR]
 have HR:=hid hR
 have H:=hid h
 have H':=hid h'
 obtain ⟨n,hnn⟩:∃ n,n=ds.length:=⟨_,rfl⟩
 obtain ⟨m,hmm⟩:∃ m,m=es.length:=⟨_,rfl⟩
 rw [<-hnn] at hn ⊢
 rw [<-hmm] at hn' ⊢
 have HN:=hid hnn
 have HM:=hid hmm
 clear h h' hnn hmm hR
 by_cases hnm:n=m
 ·subst hnm
  have e1:((n:Int) != (n:Int))=false:=by simp
  go_enter Tryz.func24,Tryz.ntmps24
  go_wp2_with fail
  go_loopw [5] (fun i wr=>∃ k:Nat,k<=n/\i = .int .i64 k/\Hid (Below w.heap.size w wr)/\Hid (ds.take k=es.take k)) (fun i _=>n - (intOf i).toNat)
  case atStart=>exact ⟨0,by omega,rfl,hid (Below.refl _ _),hid rfl⟩
  case round=>
   obtain ⟨k,hk,rfl,HB,HT⟩:=hrel
   have hws:=HB.out.size
   by_cases hlt:k < n
   ·have h1:k < ds.length:=by have:=HN.out; omega
    have h2:k < es.length:=by have:=HM.out; omega
    obtain ⟨b0,o0,rfl,hb0,q0,q1,q2⟩:=(H.out.below HB.out (Nat.le_refl _)) k h1
    obtain ⟨b1,o1,rfl,hb1,r0,r1,r2⟩:=(H'.out.below HB.out (Nat.le_refl _)) k h2
    have HS:=hid (fun (h:ds[k]=es[k])=>take_eq_step HT.out h1 h2 h)
    have HD:=hid (fun (h:ds[k] ≠ es[k]) (e:ds=es)=>h (by subst e; rfl))
    generalize ds[k]=x at q0 q1 q2 HS HD
    generalize es[k]=y at r0 r1 r2 HS HD
    obtain ⟨⟨x1,x2⟩,xd⟩:=x
    obtain ⟨⟨y1,y2⟩,yd⟩:=y
    simp only at q0 q1 q2 r0 r1 r2
    have hq:=fun W=>neq_itm x1 x2 y1 y2 ⟨xd.toArray⟩ ⟨yd.toArray⟩ W
    have hsx:(⟨xd.toArray⟩:ByteArray).toList=xd:=by rw [Lib.toList_data]
    have hsy:(⟨yd.toArray⟩:ByteArray).toList=yd:=by rw [Lib.toList_data]
    rw [hsx,hsy] at hq
    clear hsx hsy
    cases hz:((x1 == y1 && x2 == y2) && xd == yd) with
    | true=>
     rw [hz] at hq
     have HT2:=hid (HS.out (by
      simp only [Bool.and_eq_true,beq_iff_eq] at hz
      rw [hz.1.1,hz.1.2,hz.2]))
     clear hz HS HD HT
     go_wp2_with fail
     go_quiet (fail)
     go_wp2_with fail
     go_roundw
     case rel=>exact ⟨k + 1,by omega,by go_num,hid (below_drewN HB.out _),HT2⟩
     case measure=>simp [intOf]; omega
    | false=>
     rw [hz] at hq
     have HF:Hid (R=false):=hid (by
      rw [HR.out]
      refine decide_eq_false (HD.out ?_)
      intro h
      simp only [Itm.mk.injEq,Prod.mk.injEq] at h
      simp [h.1.1,h.1.2,h.2] at hz)
     clear hz HS HD HT
     go_wp2_with fail
     go_quiet (fail)
     go_wp2_with fail
     go_ret
     exact ⟨by rw [HF.out]; rfl,below_drewN HB.out _⟩
   ·have HF:Hid (R=true):=hid (by
     rw [HR.out]
     exact decide_eq_true (eq_take_full (by rw [<-HN.out,<-HM.out]) k HT.out (by rw [<-HN.out]; omega)))
    go_wp2_with fail
    go_ret
    exact ⟨by rw [HF.out]; rfl,HB.out⟩
 ·have e1:((n:Int) != (m:Int))=true:=by simp; omega
  have e2:(n != m)=true:=by simpa using hnm
  have HF:Hid (R=false):=hid (by
   rw [HR.out]
   refine decide_eq_false (fun e=>hnm ?_)
   rw [HN.out,HM.out,e])
  clear hnm
  go_enter Tryz.func24,Tryz.ntmps24
  go_wp2_with fail
  go_ret
  exact ⟨by rw [HF.out]; rfl,Below.refl _ _⟩
theorem any_take_step {α:Type} {p:α->Bool} {l:List α} {k:Nat} (h:k < l.length) (h1:(l.take k).any p=false) (h2:p l[k]=false):(l.take (k + 1)).any p=false:=by
 rw [List.take_succ_eq_append_getElem h,List.any_append,h1]
 simp [h2]
theorem append_oneI {W:World} {base:Nat} {v:Value} {xs:List Itm} (hown:W.ownsRow base 63 3 v xs.length (icells xs)) (x1 x2:Int) (dt:List UInt8) (hlen:(xs.length:Int)<=100000000) (hbase:base<=W.heap.size) :
  ∃ v' W',(Builtin.append_ #[23,23] 23 #[v,.slice (some ⟨W.heap.size,0,none⟩) 1 1]).run Tryz.prog (W.alloc (.cells #[.int .u64 x1,.int .u64 x2,.string ⟨dt.toArray⟩] 63)) = .ok v' W'/\W'.ownsRow base 63 3 v' (xs ++ [(⟨(x1,x2),dt⟩:Itm)]).length (icells (xs ++ [(⟨(x1,x2),dt⟩:Itm)]))/\(W.alloc (.cells #[.int .u64 x1,.int .u64 x2,.string ⟨dt.toArray⟩] 63)).grownBy W' v.ownBlock/\(v'.ownBlock=v.ownBlock\/v'.ownBlock=some (W.heap.size + 1)):=by
 have h:=append_its (W.alloc (.cells #[.int .u64 x1,.int .u64 x2,.string ⟨dt.toArray⟩] 63)) base 23 v xs (hown.alloc _) (some ⟨W.heap.size,0,none⟩) [⟨(x1,x2),dt⟩] 1 (fun i hi=>by
  obtain rfl:i=0:=by simp at hi; omega
  have hk:=BK.new W #[.int .u64 x1,.int .u64 x2,.string ⟨dt.toArray⟩] 63
  exact ⟨_,0,rfl,hk.lt,by rw [Nat.zero_mul,hk.cell]; rfl,by rw [Nat.zero_mul,hk.cell]; rfl,by rw [Nat.zero_mul,hk.cell]; rfl⟩) (by simp; omega) (by simp; omega)
 simpa using h
def keepS (xs:List Itm) (l:List (Int × Int)):List Itm:=xs.filter fun x=>decide (x.d ∈ l)
theorem mem_take_or (l:List (Int × Int)) (k:Nat) (h:k < l.length) (d:Int × Int):(decide (d ∈ l.take k) || decide (d=l[k]))=decide (d ∈ l.take (k + 1)):=by
 rw [List.take_succ_eq_append_getElem h,<-Bool.decide_or]
 congr 1
 rw [List.mem_append,List.mem_singleton]
theorem keep_any (a:Option Addr) (xs:List Itm) (c:Nat) (la:Option Addr) (l:List (Int × Int)) (lc:Nat) (w:World) (hp:PoolIn w a xs c) (hl:Digs w.heap.size w la l) (hok:∀ d ∈ l,OkD d) (hxk:∀ x ∈ xs,OkD x.d) (hll:(l.length:Int)<=1000000) :
  Calls Tryz.prog 23 #[.slice a xs.length c,.slice la l.length lc] w (GotP w none (keepS xs l)):=by
 have hmm:=@run_makeMap Tryz.prog
 have HP:=hid hp.its
 have HL:=hid hl
 have HOK:=hid hok
 have HXK:=hid hxk
 have hxl:=hp.len
 obtain ⟨n,hn⟩:∃ n,n=xs.length:=⟨_,rfl⟩
 obtain ⟨m,hm⟩:∃ m,m=l.length:=⟨_,rfl⟩
 rw [<-hn] at hxl ⊢
 rw [<-hm] at hll ⊢
 have HN:=hid hn
 have HM:=hid hm
 clear hp hl hok hxk hn hm
 go_enter Tryz.func23,Tryz.ntmps23
 go_wp2_with fail
 go_loopw [14] (fun i wr=>∃ k:Nat,k<=m/\i = .int .i64 k/\Hid (MapD w.heap.size k (fun d=>decide (d ∈ l.take k)) wr)/\Hid (Below w.heap.size w wr)) (fun i _=>m - (intOf i).toNat)
 case atStart=>exact ⟨0,by omega,rfl,hid ((MapD.made w).eq (fun d=>by simp)),hid ((Below.refl _ w).alloc (Nat.le_refl _) _)⟩
 case round=>
  clear hmm
  obtain ⟨k,hk,rfl,HMP,HB⟩:=hrel
  have hws:=HB.out.size
  by_cases hlt:k < m
  ·have h1:k < l.length:=by have:=HM.out; omega
   obtain ⟨b0,o0,rfl,hb0,q0,q1⟩:=(HL.out.below HB.out (Nat.le_refl _)) k h1
   have hokd:=HOK.out _ (List.getElem_mem h1)
   have HMT:=hid (mem_take_or l k h1)
   generalize l[k]=d at q0 q1 hokd HMT
   obtain ⟨d1,d2⟩:=d
   simp only at q0 q1
   obtain ⟨u1,hup,hmp1,hgu⟩:=(HMP.out.alloc (.cells #[.int .u64 d1,.int .u64 d2] 41)).put hokd (by omega)
   have HMP1:=hid (hmp1.eq HMT.out)
   have HB1:Hid (Below w.heap.size w u1):=hid (below_of_grown (HB.out.alloc hws _) hgu (Nat.le_refl _))
   clear hmp1 hgu HMT
   go_wp2_with fail
   go_roundw
   case rel=>exact ⟨k + 1,by omega,by go_num,HMP1,HB1⟩
   case measure=>simp [intOf]; omega
  ·have HM2:Hid (MapD w.heap.size k (fun d=>decide (d ∈ l)) wr):=hid (by
    have h:=HMP.out
    rwa [List.take_of_length_le (by have:=HM.out; omega)] at h)
   have hmz:=HM2.out.lt
   clear HMP
   go_wp2_with fail
   go_loopw [8,23] (fun v i wx=>∃ j:Nat,j<=n/\i = .int .i64 j/\Hid (MapD w.heap.size k (fun d=>decide (d ∈ l)) wx)/\Hid (wx.ownsRow (w.heap.size + 1) 63 3 v (keepS (xs.take j) l).length (icells (keepS (xs.take j) l)))/\Hid (Below w.heap.size w wx)) (fun _ i _=>n - (intOf i).toNat)
   case atStart=>exact ⟨0,by omega,rfl,HM2,hid (World.ownsRow_nil _ _ _ _),HB⟩
   case round=>
    clear HM2 HB hws hmz
    obtain ⟨j,hj,rfl,HMP,HO,HB⟩:=hrel
    have hws:=HB.out.size
    have hmz:=HMP.out.lt
    obtain ⟨av,cv,rfl,hcap⟩:=ownsRow_sliceN HO.out
    have hkl:(keepS (xs.take j) l).length<=j:=Nat.le_trans (List.length_filter_le _ _) (List.length_take_le _ _)
    by_cases hjn:j < n
    ·have h1:j < xs.length:=by have:=HN.out; omega
     obtain ⟨b0,o0,rfl,hb0,q0,q1,q2⟩:=(HP.out.below HB.out (Nat.le_refl _)) j h1
     have hokx:=HXK.out _ (List.getElem_mem h1)
     have HKS:Hid (keepS (xs.take (j + 1)) l=keepS (xs.take j) l ++ (if xs[j].d ∈ l then [xs[j]] else [])):=hid (by
      unfold keepS
      rw [filter_take_succ _ xs j h1]
      congr 1
      by_cases h:xs[j].d ∈ l <;> simp [h])
     generalize xs[j]=x at q0 q1 q2 hokx HKS
     obtain ⟨⟨x1,x2⟩,dt⟩:=x
     simp only at q0 q1 q2 hokx HKS
     have HMP0:=hid (HMP.out.alloc (.cells #[.int .u64 x1,.int .u64 x2,.string ⟨dt.toArray⟩] 63))
     have hlk:=HMP0.out.look hokx
     have HO0:=hid (HO.out.alloc (.cells #[.int .u64 x1,.int .u64 x2,.string ⟨dt.toArray⟩] 63))
     have HB0:=hid (HB.out.alloc hws (.cells #[.int .u64 x1,.int .u64 x2,.string ⟨dt.toArray⟩] 63))
     have hjn':(j:Int) < (n:Int):=by omega
     by_cases hx:(x1,x2) ∈ l
     ·rw [decide_eq_true hx] at hlk
      rw [if_pos hx] at HKS
      obtain ⟨v',W',hrun,hown',hg',hat'⟩:=append_oneI HO0.out x1 x2 dt (by omega) (by simp; omega)
      have HO2:Hid (W'.ownsRow (w.heap.size + 1) 63 3 v' (keepS (xs.take (j + 1)) l).length (icells (keepS (xs.take (j + 1)) l))):=hid (by rw [HKS.out]; exact hown')
      have HM2:=hid ((HMP0.out.alloc (.cells #[.int .u64 x1,.int .u64 x2,.string ⟨dt.toArray⟩] 63)).kept hg' (own_map_ne HO.out (by omega)))
      have HB2:Hid (Below w.heap.size w W'):=hid ((HB0.out.alloc (by simp; omega) _).grown hg' (by simp; omega) (fun i hi=>by have:=(HO.out.lt _ hi).1; omega))
      rw [show (wr.alloc (.cells #[.int .u64 x1,.int .u64 x2,.string ⟨dt.toArray⟩] 63)).heap.size=wr.heap.size + 1 by simp] at hrun
      have HRUN:=hid hrun
      clear hrun hown' hg' hat' hx HKS HO0 HB0 HMP0 HMP HO
      generalize (keepS (xs.take j) l).length=kl at HRUN hcap hkl ⊢
      go_wp2_with (at_builtin; refine Lib.wpList_append_run _ rfl _ _ _ _ rfl _ _ rfl rfl _ _ HRUN.out ?_)
      go_roundw
      case rel=>exact ⟨j + 1,by omega,by go_num,HM2,HO2,HB2⟩
      case measure=>simp [intOf]; omega
     ·rw [decide_eq_false hx] at hlk
      rw [if_neg hx,List.append_nil] at HKS
      have HO2:Hid ((wr.alloc (.cells #[.int .u64 x1,.int .u64 x2,.string ⟨dt.toArray⟩] 63)).ownsRow (w.heap.size + 1) 63 3 (.slice av (keepS (xs.take j) l).length cv) (keepS (xs.take (j + 1)) l).length (icells (keepS (xs.take (j + 1)) l))):=hid (by rw [HKS.out]; exact HO0.out)
      clear hx HO0 HO HMP HKS
      generalize (keepS (xs.take j) l).length=kl at HO2 hcap hkl ⊢
      go_wp2_with fail
      go_roundw
      case rel=>exact ⟨j + 1,by omega,by go_num,HMP0,HO2,HB0⟩
      case measure=>simp [intOf]; omega
    ·have hfull:xs.take j=xs:=List.take_of_length_le (by have:=HN.out; omega)
     rw [hfull] at HO hcap hkl ⊢
     have HF:Hid (PoolAt w none [] (keepS xs l) av cv wr):=hid ⟨ownsRow_its HO.out,hcap,.inr (fun ad had=>by have:=own_new HO.out ad had; omega),HB.out⟩
     have HG:Hid (GotP w none (keepS xs l) (.returned (.slice av (keepS xs l).length cv)) wr):=hid ⟨av,cv,rfl,HF.out⟩
     clear hfull HO
     generalize (keepS xs l).length=kl at HG ⊢
     go_wp2_with fail
     go_ret
     exact HG.out
open Go.RowKit
theorem refOf_any (L:List UInt8) (w:World) (hs:(L.length:Int)<=140737488355328) :
  Calls Tryz.prog 55 #[.string ⟨L.toArray⟩] w fun e w'=>e = .returned (.agg #[.int .u64 (digS L).1,.int .u64 (digS L).2])/\Below w.heap.size w w':=by
 have HD:Hid (digS L=if L.foldl dig1 14695981039346656037=0/\L.foldl dig2 14695981039346656037=0 then (0,1) else (L.foldl dig1 14695981039346656037,L.foldl dig2 14695981039346656037)):=hid rfl
 obtain ⟨R1,R2,hR⟩:∃ R1 R2,digS L=(R1,R2):=⟨_,_,rfl⟩
 rw [hR] at HD ⊢
 clear hR
 obtain ⟨f,hf⟩:∃ f:List UInt8->Int,f=fun l=>l.foldl dig1 14695981039346656037:=⟨_,rfl⟩
 obtain ⟨g,hg⟩:∃ g:List UInt8->Int,g=fun l=>l.foldl dig2 14695981039346656037:=⟨_,rfl⟩
 have HF:Hid (∀ k (h:k < L.length),f (L.take (k + 1))=dig1 (f (L.take k)) L[k]):=hid (fun k h=>by rw [hf]; exact foldl_take _ _ _ _ h)
 have HG:Hid (∀ k (h:k < L.length),g (L.take (k + 1))=dig2 (g (L.take k)) L[k]):=hid (fun k h=>by rw [hg]; exact foldl_take _ _ _ _ h)
 have HF0:Hid (f (L.take 0)=14695981039346656037):=hid (by rw [hf]; rfl)
 have HG0:Hid (g (L.take 0)=14695981039346656037):=hid (by rw [hg]; rfl)
 have HD2:Hid ((R1,R2)=if f L=0/\g L=0 then (0,1) else (f L,g L)):=hid (by rw [hf,hg]; exact HD.out)
 clear hf hg HD
 go_enter Tryz.func55,Tryz.ntmps55
 go_wp2_with fail
 go_loop [3,4,5] (fun n m i=>∃ (k:Nat) (x y:Int),k<=L.length/\i = .int .i64 k/\n = .int .u64 x/\m = .int .u64 y/\Hid (x=f (L.take k))/\Hid (y=g (L.take k))) (fun _ _ i=>L.length - (intOf i).toNat)
 case atStart=>exact ⟨0,_,_,by omega,rfl,rfl,rfl,hid HF0.out.symm,hid HG0.out.symm⟩
 case round=>
  obtain ⟨k,x,y,hk,rfl,rfl,rfl,HX,HY⟩:=hrel
  by_cases hlt:k < L.length
  ·have HN:Hid (f (L.take (k + 1))=dig1 x L[k]):=hid (by rw [HX.out]; exact HF.out k hlt)
   have HM:Hid (g (L.take (k + 1))=dig2 y L[k]):=hid (by rw [HY.out]; exact HG.out k hlt)
   go_wp2_with fail
   go_round
   case rel=>exact ⟨k + 1,_,_,by omega,by go_num,rfl,rfl,hid (by rw [HN.out]; rfl),hid (by rw [HM.out]; rfl)⟩
   case measure=>simp [intOf]; omega
  ·have HN:Hid (f L=x):=hid (by rw [HX.out,List.take_of_length_le (by omega)])
   have HM:Hid (g L=y):=hid (by rw [HY.out,List.take_of_length_le (by omega)])
   rw [HN.out,HM.out] at HD2
   by_cases hx:x=0
   ·subst hx
    by_cases hy:y=0
    ·subst hy
     have HR:Hid (R1=0/\R2=1):=hid (by simpa using HD2.out)
     go_wp2_with fail
     refine bodyPost_ret (v:=.agg #[.int .u64 0,.int .u64 1]) (by simp [results,Tryz.results55,go_sem]) rfl ⟨by rw [HR.out.1,HR.out.2],?_⟩
     exact (Below.refl _ w).alloc (Nat.le_refl _) _
    ·have HR:Hid (R1=0/\R2=y):=hid (by simpa [hy] using HD2.out)
     have hy':(y == 0)=false:=by simpa using hy
     clear hy
     go_wp2_with fail
     refine bodyPost_ret (v:=.agg #[.int .u64 0,.int .u64 y]) (by simp [results,Tryz.results55,go_sem]) rfl ⟨by rw [HR.out.1,HR.out.2],?_⟩
     exact (Below.refl _ w).alloc (Nat.le_refl _) _
   ·have HR:Hid (R1=x/\R2=y):=hid (by simpa [hx] using HD2.out)
    have hx':(x == 0)=false:=by simpa using hx
    clear hx
    go_wp2_with fail
    refine bodyPost_ret (v:=.agg #[.int .u64 x,.int .u64 y]) (by simp [results,Tryz.results55,go_sem]) rfl ⟨by rw [HR.out.1,HR.out.2],?_⟩
    exact (Below.refl _ w).alloc (Nat.le_refl _) _
def pgreatS (xs:List Itm):Bool:=decide (40 < xs.length) || xs.any fun x=>decide (500 < x.data.length)
theorem pgreatS_false {xs:List Itm} (h:pgreatS xs=false):xs.length<=40/\∀ x ∈ xs,x.data.length<=500:=by
 simp only [pgreatS,Bool.or_eq_false_iff,decide_eq_false_iff_not,List.any_eq_false] at h
 exact ⟨by omega,fun x hx=>by have:=h.2 x hx; simp at this; omega⟩
theorem pgreat_any (a:Option Addr) (xs:List Itm) (c:Nat) (w:World) (h:Its w.heap.size w a xs) (hl:(xs.length:Int)<=9223372036854775807) (hd:∀ x ∈ xs,(x.data.length:Int)<=9223372036854775807) :
  Calls Tryz.prog 42 #[.slice a xs.length c] w fun e w'=>e = .returned (.bool (pgreatS xs))/\w=w':=by
 obtain ⟨R,hR⟩:∃ R,R=pgreatS xs:=⟨_,rfl⟩
 rw [<-hR]
 unfold pgreatS at hR
 have H:=hid h
 have HD:=hid hd
 obtain ⟨n,hn⟩:∃ n,n=xs.length:=⟨_,rfl⟩
 rw [<-hn] at hR hl ⊢
 have HN:=hid hn
 clear h hd hn
 by_cases h40:(40:Int) < (n:Int)
 ·have d1:decide ((40:Int) < (n:Int))=true:=by simpa using h40
  have HF:Hid (R=true):=hid (by rw [hR,decide_eq_true (show 40 < n by omega)]; simp)
  clear hR
  go_enter Tryz.func42,Tryz.ntmps42
  go_wp2_with fail
  go_ret
  exact ⟨by rw [HF.out]; rfl,rfl⟩
 ·have d1:decide ((40:Int) < (n:Int))=false:=by simpa using h40
  have b1:decide (40 < n)=false:=by simp; omega
  have HR:Hid (R=xs.any fun x=>decide (500 < x.data.length)):=hid (by rw [hR,b1,Bool.false_or])
  clear hR b1
  go_enter Tryz.func42,Tryz.ntmps42
  go_wp2_with fail
  go_loop [3] (fun i=>∃ k:Nat,k<=n/\i = .int .i64 k/\Hid ((xs.take k).any (fun x=>decide (500 < x.data.length))=false)) (fun i=>n - (intOf i).toNat)
  case atStart=>exact ⟨0,by omega,rfl,hid rfl⟩
  case round=>
   obtain ⟨k,hk,rfl,HA⟩:=hrel
   by_cases hlt:k < n
   ·have h1:k < xs.length:=by have:=HN.out; omega
    obtain ⟨b0,o0,rfl,hb0,q0,q1,q2⟩:=H.out k h1
    have hdl:=HD.out _ (List.getElem_mem h1)
    have HST:=hid (fun h2=>any_take_step (p:=fun x:Itm=>decide (500 < x.data.length)) h1 HA.out h2)
    have HT:Hid (500 < xs[k].data.length->R=true):=hid (fun h2=>by rw [HR.out,List.any_eq_true]; exact ⟨_,List.getElem_mem h1,by simpa using h2⟩)
    generalize xs[k]=x at q2 hdl HST HT
    obtain ⟨xd,dt⟩:=x
    simp only at q2 hdl HST HT
    clear q0 q1
    have hlt':(k:Int) < (n:Int):=by omega
    by_cases hn5:(500:Int) < (dt.length:Int)
    ·have d2:decide ((500:Int) < (dt.length:Int))=true:=by simpa using hn5
     have HF:Hid (R=true):=hid (HT.out (by omega))
     clear HST HT
     go_wp2_with fail
     go_ret
     exact ⟨by rw [HF.out]; rfl,rfl⟩
    ·have d2:decide ((500:Int) < (dt.length:Int))=false:=by simpa using hn5
     have HA2:=hid (HST.out (by simp; omega))
     clear HST HT HA
     go_wp2_with fail
     go_round
     case rel=>exact ⟨k + 1,by omega,by go_num,HA2⟩
     case measure=>simp [intOf]; omega
   ·have HF:Hid (R=false):=hid (by rw [HR.out,<-List.take_of_length_le (l:=xs) (i:=k) (by have:=HN.out; omega)]; exact HA.out)
    go_wp2_with fail
    go_ret
    exact ⟨by rw [HF.out]; rfl,rfl⟩
theorem cmpD_lt {x y x' y':Int} (h:x < x'):cmpD (x,y) (x',y') = -1:=by
 have:=cmpD_range (x,y) (x',y')
 simp only at this
 omega
theorem cmpD_gt {x y x' y':Int} (h:x' < x):cmpD (x,y) (x',y')=1:=by
 have:=cmpD_range (x,y) (x',y')
 simp only at this
 omega
theorem refCmp_any (x y x' y':Int) (w:World):Calls Tryz.prog 94 #[.agg #[.int .u64 x,.int .u64 y],.agg #[.int .u64 x',.int .u64 y']] w fun e w'=>e = .returned (.int .i64 (cmpD (x,y) (x',y')))/\Below w.heap.size w w':=by
 obtain ⟨R,hR⟩:∃ R,R=cmpD (x,y) (x',y'):=⟨_,rfl⟩
 rw [<-hR]
 have HR:=hid hR
 clear hR
 go_enter Tryz.func94,Tryz.ntmps94
 go_wp2_with fail
 go_loopw [5] (fun i wr=>∃ k q:Nat,k<=2/\i = .int .i64 k/\wr=((w.alloc (.cells #[.int .u64 x,.int .u64 y] 41)).alloc (.cells #[.int .u64 x',.int .u64 y'] 41)).drewN q/\Hid ((1<=k->x=x')/\(2<=k->y=y'))) (fun i _=>2 - (intOf i).toNat)
 case atStart=>exact ⟨0,0,by omega,rfl,rfl,hid ⟨by omega,by omega⟩⟩
 case round=>
  obtain ⟨k,q,hk,rfl,rfl,HK⟩:=hrel
  by_cases hk0:k=0
  ·subst hk0
   by_cases h1:x < x'
   ·have d1:decide (x < x')=true:=by simpa using h1
    have HF:Hid (R = -1):=hid (by rw [HR.out,cmpD_lt h1])
    clear h1 HK HR
    go_wp2_with fail
    go_quiet (fail)
    go_wp2_with fail
    go_ret
    exact ⟨by rw [HF.out]; rfl,below_drewN (below_drewN (((Below.refl _ w).alloc (Nat.le_refl _) _).alloc (by simp) _) _) _⟩
   ·have d1:decide (x < x')=false:=by simpa using h1
    by_cases h2:x' < x
    ·have d2:decide (x' < x)=true:=by simpa using h2
     have HF:Hid (R=1):=hid (by rw [HR.out,cmpD_gt h2])
     clear h1 h2 HK HR
     go_wp2_with fail
     go_quiet (fail)
     go_wp2_with fail
     go_quiet (fail)
     go_wp2_with fail
     go_ret
     exact ⟨by rw [HF.out]; rfl,below_drewN (below_drewN (below_drewN (((Below.refl _ w).alloc (Nat.le_refl _) _).alloc (by simp) _) _) _) _⟩
    ·have d2:decide (x' < x)=false:=by simpa using h2
     have HE:Hid (x=x'):=hid (by omega)
     clear h1 h2 HK
     go_wp2_with fail
     go_quiet (fail)
     go_wp2_with fail
     go_quiet (fail)
     go_wp2_with fail
     go_roundw
     case rel=>exact ⟨1,_,by omega,by go_num,by first | rfl | (simp only [World.drewN_drewN]; rfl),hid ⟨fun _=>HE.out,by omega⟩⟩
     case measure=>simp [intOf]
  ·by_cases hk1:k=1
   ·subst hk1
    have HX:=hid (HK.out.1 (by omega))
    by_cases h1:y < y'
    ·have d1:decide (y < y')=true:=by simpa using h1
     have HF:Hid (R = -1):=hid (by
      rw [HR.out]
      have:=cmpD_range (x,y) (x',y')
      have:=HX.out
      simp only at *
      omega)
     clear h1 HK HR hk0
     go_wp2_with fail
     go_quiet (fail)
     go_wp2_with fail
     go_ret
     exact ⟨by rw [HF.out]; rfl,below_drewN (below_drewN (((Below.refl _ w).alloc (Nat.le_refl _) _).alloc (by simp) _) _) _⟩
    ·have d1:decide (y < y')=false:=by simpa using h1
     by_cases h2:y' < y
     ·have d2:decide (y' < y)=true:=by simpa using h2
      have HF:Hid (R=1):=hid (by
       rw [HR.out]
       have:=cmpD_range (x,y) (x',y')
       have:=HX.out
       simp only at *
       omega)
      clear h1 h2 HK HR hk0
      go_wp2_with fail
      go_quiet (fail)
      go_wp2_with fail
      go_quiet (fail)
      go_wp2_with fail
      go_ret
      exact ⟨by rw [HF.out]; rfl,below_drewN (below_drewN (below_drewN (((Below.refl _ w).alloc (Nat.le_refl _) _).alloc (by simp) _) _) _) _⟩
     ·have d2:decide (y' < y)=false:=by simpa using h2
      have HE:Hid (y=y'):=hid (by omega)
      clear h1 h2 HK hk0
      go_wp2_with fail
      go_quiet (fail)
      go_wp2_with fail
      go_quiet (fail)
      go_wp2_with fail
      go_roundw
      case rel=>exact ⟨2,_,by omega,by go_num,by first | rfl | (simp only [World.drewN_drewN]; rfl),hid ⟨fun _=>HX.out,fun _=>HE.out⟩⟩
      case measure=>simp [intOf]
   ·obtain rfl:k=2:=by omega
    have HF:Hid (R=0):=hid (by rw [HR.out,HK.out.1 (by omega),HK.out.2 (by omega),cmpD_self])
    clear HK HR hk0 hk1
    go_wp2_with fail
    go_ret
    exact ⟨by rw [HF.out]; rfl,below_drewN (((Below.refl _ w).alloc (Nat.le_refl _) _).alloc (by simp) _) _⟩
end Go.Proofs.YtfdahmicigpnoaaGreat
