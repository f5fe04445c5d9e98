/- Joined texts: PoMp, PoLk, PoEq, PoSo, PoRs, PoRe, PoAw, PoO, PoSm, PoGr, PoKe, PoRf. -/
import Derived.Test.YtijkieiihpiljaaGreatK4
import Derived.DeepKeys4
import Derived.Maps.OwnSet
import Derived.Maps.Views
import Derived.ProofKit
import Derived.OpenShut
import Derived.ShutString
import Derived.Deep.Slices
import Derived.Deep.Fields
import Derived.Deep.RegionWith
/- A map from digests to bools,as a set. -/
set_option maxRecDepth 100000
set_option maxHeartbeats 16000000
open Go.Lib (hid)
namespace Go.Proofs.YtijkieiihpiljaaGreat
open Go.RowKit Go.Shelf
set_option linter.unusedVariables false
theorem laidOutD:laidOutB Tryz.prog=true:=by kernel_rfl
theorem rowD:(41:TypeId) < Tryz.prog.types.size:=of_decide_eq_true (by kernel_rfl)
theorem wideD:(match Tryz.prog.underlying 41 with | some (.array _ _) | some (.struct _)=>true | _=>false)=true:=by rw [Tryz.underlying41]
theorem lawD:Maps.Keyed Tryz.prog 41:=Maps.Keyed.of_law (deep_law_laid laidOutD (m:=2) (by omega) rowD (by kernel_rfl) wideD)
theorem keyTD:Tryz.prog.keyType 41 = true:=by kernel_rfl
theorem cellsD:Tryz.prog.cellsOf 41 = 2:=by kernel_rfl
theorem typesD:∃ m,Tryz.prog.types.size + 1=m + 2:=⟨Tryz.prog.types.size - 1,by have:=of_decide_eq_true (p:=1<=Tryz.prog.types.size) (by kernel_rfl); omega⟩
abbrev dval (d:Int × Int):Value:=.agg #[.int .u64 d.1,.int .u64 d.2]
noncomputable def keyL (d:Int × Int):Lit:=(keyOf Tryz.prog 41 (dval d)).getD .nil
theorem wf_u64 {x:Int} (h:u64B x):(Lit.int .u64 x).wf=true:=by
 unfold u64B at h
 simp [Lit.wf,IntKind.min,IntKind.max,IntKind.signed,IntKind.bits]
 omega
theorem keyL_some {d:Int × Int} (h:OkD d):keyOf Tryz.prog 41 (dval d)=some (keyL d):=by
 have:∃ l,keyOf Tryz.prog 41 (dval d)=some l:=by
  obtain ⟨m,hm⟩:=typesD
  unfold keyOf
  rw [Tryz.underlying41]
  simp only [keyTD,Value.formed,Tryz.underlying41,cellsD,hm]
  simp [Program.keyLits,Tryz.underlying41,Tryz.underlying39,cellsD,cellsU64,wf_u64 h.1,wf_u64 h.2,Value.cells,List.range_succ]
 obtain ⟨l,hl⟩:=this
 unfold keyL
 rw [hl]; rfl
theorem keyL_inj {d d':Int × Int} (h:OkD d) (h':OkD d') (e:keyL d=keyL d'):d=d':=by
 have h1:=keyL_some h
 have h2:=keyL_some h'
 rw [<-e] at h2
 have:=lawD.inj h1 h2
 injection this with this
 injection this with this
 simp at this
 exact Prod.ext this.1 this.2
def MapD (b n:Nat) (M:Int × Int->Bool) (W:World):Prop:=
 ∃ D:DataW Unit,W.ownsMap Tryz.prog 41 (plainElem Tryz.prog 4) b n D/\∀ d,OkD d->D.atKey (keyL d) (.lit (.bool false)) = .lit (.bool (M d))
theorem MapD.made (W:World):MapD W.heap.size 0 (fun _=>false) (W.alloc (.map #[] 0)):=⟨.map [],World.ownsMap_made _ _ _ _,fun d _=>WideAt.atKey_none _ (fun p hp=>by simp at hp)⟩
theorem MapD.lt {b n:Nat} {M:Int × Int->Bool} {W:World} (h:MapD b n M W):b < W.heap.size:=by obtain ⟨D,h1,_⟩:=h; exact h1.lt
theorem MapD.kept {b n:Nat} {M:Int × Int->Bool} {W W':World} {row:Option Nat} (h:MapD b n M W) (hg:W.grownBy W' row) (hne:some b ≠ row):MapD b n M W':=by obtain ⟨D,h1,h2⟩:=h; exact ⟨D,h1.kept hg hne,h2⟩
theorem MapD.alloc {b n:Nat} {M:Int × Int->Bool} {W:World} (h:MapD b n M W) (o:Obj):MapD b n M (W.alloc o):=by obtain ⟨D,h1,h2⟩:=h; exact ⟨D,h1.alloc o,h2⟩
theorem MapD.below {b n:Nat} {M:Int × Int->Bool} {W W':World} (h:MapD b n M W) (hb:Below W.heap.size W W'):MapD b n M W':=h.kept (row:=none) ⟨hb.os,hb.tape,hb.output,hb.size,fun k hk _=>hb.block k hk⟩ (by simp)
theorem zeroBool (W:World):(zeroValue 4).run Tryz.prog W = .ok (.bool false) W:=by kernel_rfl
theorem plainElem_bool_inv {v:Value} {z:DataW Unit × List MemPlace} (h:plainElem Tryz.prog 4 v=some z):∃ a,v = .bool a/\z=(.lit (.bool a),[]):=by
 unfold plainElem at h
 rw [Tryz.underlying4] at h
 cases v <;> simp at h
 exact ⟨_,rfl,h.symm⟩
theorem MapD.look {b n:Nat} {M:Int × Int->Bool} {W:World} (h:MapD b n M W) {x y:Int} (hd:OkD (x,y)):(Instr.lookup 71 (.map (some b)) (.agg #[.int .u64 x,.int .u64 y]) false).run Tryz.prog W = .ok (.bool (M (x,y))) W:=by
 obtain ⟨D,h1,h2⟩:=h
 obtain ⟨v,ps,hrun,hv⟩:=h1.lookup lawD Tryz.underlying71 (zeroBool W) (plainElem_bool (H:=Unit) Tryz.underlying4 false) (keyL_some hd)
 obtain ⟨a,rfl,hz⟩:=plainElem_bool_inv hv
 rw [h2 _ hd] at hz
 simp only [Prod.mk.injEq] at hz
 injection hz.1 with hz
 injection hz with hz
 rw [hrun,hz]
theorem MapD.put {b n:Nat} {M:Int × Int->Bool} {W:World} (h:MapD b n M W) {x y:Int} (hd:OkD (x,y)) (hn:(n:Int)<=1000000000) :
  ∃ W',(Instr.mapUpdate 71 (.map (some b)) (.agg #[.int .u64 x,.int .u64 y]) (.bool true)).run Tryz.prog W = .ok () W'/\MapD b (n + 1) (fun d=>M d || decide (d=(x,y))) W'/\W.grownBy W' (some b):=by
 obtain ⟨D,h1,h2⟩:=h
 obtain ⟨W',hrun,ho,hg⟩:=h1.update lawD Tryz.underlying71 (by unfold maxLen; omega) (keyL_some hd) (plainElem_bool (H:=Unit) Tryz.underlying4 true)
 refine ⟨W',hrun,⟨_,ho,fun d hd'=>?_⟩,hg⟩
 by_cases e:d=(x,y)
 ·subst e
  rw [Maps.atKey_put_same h1.isMap (lawD.key (keyL_some hd))]
  simp
 ·rw [Maps.atKey_put_other (fun h=>e (keyL_inj hd' hd h)),h2 _ hd']
  simp [e]
def linksS (o:Ob):List (Int × Int):=if (encodeS o).2 ≠ 0 then [] else o.ents.map (·.d) ++ (if o.kind=3 then o.tree :: o.pars else [])
theorem append_one {W:World} {base:Nat} {v:Value} {xs:List (Int × Int)} (hown:W.ownsRow base 41 2 v xs.length (dcells xs)) (d1 d2:Int) (hlen:(xs.length:Int)<=1000000) (hbase:base<=W.heap.size) :
  ∃ v' W',(Builtin.append_ #[24,24] 24 #[v,.slice (some ⟨W.heap.size,0,none⟩) 1 1]).run Tryz.prog (W.alloc (.cells #[.int .u64 d1,.int .u64 d2] 41)) = .ok v' W'/\W'.ownsRow base 41 2 v' (xs ++ [(d1,d2)]).length (dcells (xs ++ [(d1,d2)]))/\(W.alloc (.cells #[.int .u64 d1,.int .u64 d2] 41)).grownBy W' v.ownBlock/\(v'.ownBlock=v.ownBlock\/v'.ownBlock=some (W.heap.size + 1)):=by
 have h:=append_digs (W.alloc (.cells #[.int .u64 d1,.int .u64 d2] 41)) base 24 v xs (hown.alloc _) (some ⟨W.heap.size,0,none⟩) [(d1,d2)] 1 (fun i hi=>by
  obtain rfl:i=0:=by simp at hi; omega
  have hk:=BK.new W #[.int .u64 d1,.int .u64 d2] 41
  exact ⟨_,0,rfl,hk.lt,by rw [Nat.zero_mul,hk.cell]; rfl,by rw [Nat.zero_mul,hk.cell]; rfl⟩) (by simp; omega) (by simp; omega)
 simpa using h
theorem eq_take_full {α:Type} {l m:List α} (hl:l.length=m.length) (k:Nat) (h:l.take k=m.take k) (hk:l.length<=k):l=m:=by
 rwa [List.take_of_length_le hk,List.take_of_length_le (by omega)] at h
open Go.RowKit Go.Shelf Go.Sort
def reachF (xs:List Itm):Nat->List (Int × Int)->List (Int × Int)->List (Int × Int)->List (Int × Int)->List (Int × Int) × List (Int × Int)
 | 0,_,_,R,M=>(R,M)
 | f + 1,op,met,R,M=>
  match op.getLast? with
  | none=>(R,M)
  | some d=>
   if d ∈ met then reachF xs f op.dropLast met R M
   else if (getS xs d).2 ≠ 0 then reachF xs f op.dropLast (d :: met) R (M ++ [d])
   else reachF xs f (op.dropLast ++ (linksS (getS xs d).1).filter fun l=>!decide (l ∈ d :: met)) (d :: met) (R ++ [d]) M
def fuelR (xs:List Itm) (roots:List (Int × Int)):Nat:=1000 * xs.length + roots.length
def mea (xs:List Itm) (op met:List (Int × Int)):Nat:=1000 * xs.countP (fun x=>!decide (x.d ∈ met)) + op.length
theorem countP_le (xs:List Itm) (met:List (Int × Int)) (d:Int × Int):xs.countP (fun x=>!decide (x.d ∈ d :: met))<=xs.countP (fun x=>!decide (x.d ∈ met)):=by
 refine List.countP_mono_left (fun x _ h=>?_)
 simp at h ⊢
 exact h.2
theorem countP_lt {xs:List Itm} {met:List (Int × Int)} {x:Itm} (hx:x ∈ xs) (hm:x.d ∉ met):xs.countP (fun y=>!decide (y.d ∈ x.d :: met)) + 1<=xs.countP (fun y=>!decide (y.d ∈ met)):=by
 induction xs with
 | nil=>simp at hx
 | cons y ys ih=>
  rw [List.countP_cons,List.countP_cons]
  rcases List.mem_cons.1 hx with rfl | hx
  ·have:=countP_le ys met x.d
   simp [hm] at this ⊢
   omega
  ·have h1:=ih hx
   have:(if (!decide (y.d ∈ x.d :: met))=true then 1 else 0)<=(if (!decide (y.d ∈ met))=true then 1 else 0):=by
    by_cases h2:y.d ∈ met
    ·simp [h2]
    ·simp [h2]; split <;> omega
   omega
theorem getS_good {xs:List Itm} {d:Int × Int} (h:(getS xs d).2=0):∃ x ∈ xs,x.d=d/\decodeS x.data=getS xs d:=by
 unfold getS at h ⊢
 split at h
 ·rename_i y hy
  split at h
  ·rename_i hd
   exact ⟨y,List.mem_of_getElem? hy,hd,by simp [hd]⟩
  ·simp at h
 ·simp at h
theorem links_le (o:Ob):(linksS o).length<=200:=by
 unfold linksS
 split
 ·simp
 ·rename_i he
  have h:=encodeS_parts (encodeS_err (by simpa using he))
  have hc:=h.1
  have hk:=checkS_kind hc
  by_cases h1:o.kind=1\/o.kind=4
  ·rw [checkS_one hc h1]; simp [obZ]; split <;> simp <;> omega
  ·by_cases h2:o.kind=2
   ·have:=(entsE_parts (checkS_two hc h2).2).1
    rw [if_neg (by omega)]; simp; exact this
   ·have h3:o.kind=3:=by omega
    have hp:=(commitE_parts (checkS_three hc h3).2).1
    rw [(checkS_three hc h3).1]; simp; omega
theorem mea_pop (xs:List Itm) (op met:List (Int × Int)) (d:Int × Int):mea xs op met + 1=mea xs (op ++ [d]) met:=by
 unfold mea; simp; omega
theorem mea_hit {xs:List Itm} {op met ls:List (Int × Int)} {d:Int × Int} (hm:d ∉ met) (h:(getS xs d).2=0) (hl:ls.length<=200):mea xs (op ++ ls) (d :: met) + 1<=mea xs (op ++ [d]) met:=by
 obtain ⟨x,hx,rfl,_⟩:=getS_good h
 have:=countP_lt hx hm
 unfold mea; rw [List.length_append,List.length_append]; simp only [List.length_cons,List.length_nil]; omega
def Apart (u v:Value):Prop:=∀ k,u.ownBlock=some k->v.ownBlock ≠ some k
theorem Apart.symm {u v:Value} (h:Apart u v):Apart v u:=fun k h1 h2=>h k h2 h1
theorem Apart.nil (v:Value):Apart (.slice none 0 0) v:=fun k h=>by simp [Value.ownBlock] at h
structure RchSt (w W:World) (M:Int × Int->Bool) (nm:Nat) (vo vr vm:Value) (op R Ms:List (Int × Int)):Prop where
 mp:MapD w.heap.size nm M W
 oo:W.ownsRow (w.heap.size + 1) 41 2 vo op.length (dcells op)
 orr:W.ownsRow (w.heap.size + 1) 41 2 vr R.length (dcells R)
 om:W.ownsRow (w.heap.size + 1) 41 2 vm Ms.length (dcells Ms)
 a1:Apart vo vr
 a2:Apart vo vm
 a3:Apart vr vm
 bel:Below w.heap.size w W
section
variable {w W W':World} {M:Int × Int->Bool} {nm:Nat} {vo vr vm v':Value} {op R Ms:List (Int × Int)}
theorem RchSt.lt (h:RchSt w W M nm vo vr vm op R Ms):w.heap.size + 1<=W.heap.size:=h.mp.lt
theorem RchSt.below (h:RchSt w W M nm vo vr vm op R Ms) (hb:Below W.heap.size W W'):RchSt w W' M nm vo vr vm op R Ms:=
 ⟨h.mp.below hb,own_below h.oo hb,own_below h.orr hb,own_below h.om hb,h.a1,h.a2,h.a3,h.bel.trans (hb.mono (by have:=h.lt; omega))⟩
theorem RchSt.alloc (h:RchSt w W M nm vo vr vm op R Ms) (o:Obj):RchSt w (W.alloc o) M nm vo vr vm op R Ms:=h.below ((Below.refl _ _).alloc (Nat.le_refl _) _)
theorem RchSt.put {M':Int × Int->Bool} (h:RchSt w W M nm vo vr vm op R Ms) (hm:MapD w.heap.size (nm + 1) M' W') (hg:W.grownBy W' (some w.heap.size)):RchSt w W' M' (nm + 1) vo vr vm op R Ms:=
 ⟨hm,own_kept h.oo hg (by omega),own_kept h.orr hg (by omega),own_kept h.om hg (by omega),h.a1,h.a2,h.a3,below_of_grown h.bel hg (Nat.le_refl _)⟩
theorem own_map_ne {W:World} {base:Nat} {e:TypeId} {z:Nat} {v:Value} {n b:Nat} {xs:List Value} (h:W.ownsRow base e z v n xs) (hb:b < base):some b ≠ v.ownBlock:=fun e1=>by have:=(h.lt b e1.symm).1; omega
end
theorem MapD.eq {b n:Nat} {M M':Int × Int->Bool} {W:World} (h:MapD b n M W) (e:∀ d,M d=M' d):MapD b n M' W:=by
 have:M=M':=funext e
 rw [<-this]; exact h
structure RL (xs:List Itm) (roots:List (Int × Int)) (w wr:World) (k:Nat) (vo vr vm:Value) (op R Ms met:List (Int × Int)) (nm:Nat):Prop where
 st:RchSt w wr (fun d=>decide (d ∈ met)) nm vo vr vm op R Ms
 eq:reachF xs (fuelR xs roots) roots [(0,0)] [] []=reachF xs k op met R Ms
 me:mea xs op met<=k
 nk:nm + k<=fuelR xs roots + 1
 rk:R.length + Ms.length + k<=fuelR xs roots
 ok:∀ d ∈ op,OkD d
theorem filter_take_succ {α:Type} (F:α->Bool) (ls:List α) (j:Nat) (h:j < ls.length):(ls.take (j + 1)).filter F=(ls.take j).filter F ++ (if F ls[j] then [ls[j]] else []):=by
 rw [List.take_succ_eq_append_getElem h,List.filter_append]
 congr 1
 by_cases hf:F ls[j]=true <;> simp [hf]
theorem wrapU_ok (x:Int):u64B (IntKind.u64.wrap x):=by
 rw [wrap_u64]
 unfold u64B
 omega
theorem bits_ok (op:BinOp) (x y:Int):u64B (bits op .u64 x y):=by
 unfold bits
 exact wrapU_ok _
theorem fold_ok {f:Int->UInt8->Int} (hf:∀ x c,u64B (f x c)):∀ (l:List UInt8) (x:Int),u64B x->u64B (l.foldl f x)
 | [],_,h=>h
 | c :: l,x,_=>by rw [List.foldl_cons]; exact fold_ok hf l _ (hf x c)
theorem digS_ok (l:List UInt8):OkD (digS l):=by
 unfold digS
 split
 ·exact ⟨⟨by decide,by decide⟩,by decide,by decide⟩
 ·exact ⟨fold_ok (fun x c=>wrapU_ok _) l _ ⟨by decide,by decide⟩,fold_ok (fun x c=>bits_ok _ _ _) l _ ⟨by decide,by decide⟩⟩
theorem digs1 {W:World} {b:Nat} {d1 d2:Int} (h:BK b #[.int .u64 d1,.int .u64 d2] 41 W):Digs W.heap.size W (some ⟨b,0,none⟩) [(d1,d2)]:=by
 intro i hi
 obtain rfl:i=0:=by simp at hi; omega
 exact ⟨b,0,rfl,h.lt,by rw [h.cell]; rfl,by rw [h.cell]; rfl⟩
open Go.ChangeShapes Go.WideShapes Go.ChangeAt Go.RowKit Go.Deep
theorem list_of {α:Type} (Q:Nat->α->Prop):∀ (n:Nat),(∀ i,i < n->∃ x,Q i x)->∃ l:List α,l.length=n/\∀ i (h:i < l.length),Q i l[i]
 | 0,_=>⟨[],rfl,fun i h=>by simp at h⟩
 | n + 1,h=>by
  obtain ⟨l,hl,hq⟩:=list_of Q n (fun i hi=>h i (by omega))
  obtain ⟨x,hx⟩:=h n (by omega)
  refine ⟨l ++ [x],by simp [hl],fun i hi=>?_⟩
  by_cases he:i < l.length
  ·rw [List.getElem_append_left he]; exact hq i he
  ·obtain rfl:i=l.length:=by simp at hi; omega
   simpa [hl] using hx
section
variable {H:Type} {enc:TypeId × Value->H} {W:World}
theorem open_rows {t e:TypeId} {C:Nat} {a:Option Addr} {len cap fuel:Nat} {x:DataW H × List MemPlace} (ht:Tryz.prog.underlying t=some (.slice e)) (hC:Tryz.prog.cellsOf e=C) (h0:0 < C)
  (h:DataW.trod enc Tryz.prog W 0 (fun _=>true) true fuel t [.slice a len cap]=some x) :
  (len<=cap/\cap<=maxLen)/\∀ i,i < len->∃ b off cs n y,a=some ⟨b,off,none⟩/\b < W.heap.size/\cs.length=C/\(∀ (j:Nat) (v:Value),cs[j]? = some v->W.cell? ⟨b,off + i * C + j,none⟩=some v)/\DataW.trod enc Tryz.prog W 0 (fun _=>true) true n e cs=some y:=by
 rcases open_slice ht h with ⟨hcs,_⟩ | ⟨ad,l,c,m,n,D,Pl,hcs,_,hl,hm,hmm,_,hi⟩
 ·simp at hcs
  obtain ⟨rfl,rfl,rfl⟩:=hcs
  exact ⟨⟨Nat.le_refl _,Nat.zero_le _⟩,fun i hi=>by omega⟩
 ·simp at hcs
  obtain ⟨rfl,rfl,rfl⟩:=hcs
  refine ⟨⟨hl,hm⟩,fun i hlt=>?_⟩
  simp only [if_true] at hmm
  obtain ⟨cs0,hc0,_⟩:=hi 0 (by omega)
  obtain ⟨_,hcl0,hat0⟩:=World.cells?_some hc0
  rw [hC] at hcl0 hat0
  obtain ⟨b,off,spot⟩:=ad
  have e0:W.cell? ((⟨b,off,spot⟩:Addr).add 0)=some (cs0[0]'(by omega)):=by
   have:=hat0 0 h0
   rw [List.getElem?_eq_getElem (by omega)] at this
   simpa [Addr.add] using this
  have hspot:spot=none:=by simpa [Addr.add] using World.cell?_spot e0
  subst hspot
  obtain ⟨cs',hc,ht'⟩:=hi i (by omega)
  obtain ⟨_,hcl,hat⟩:=World.cells?_some hc
  rw [hC] at hcl hat
  have hlt0:b < W.heap.size:=by
   unfold World.cell? at e0
   simp only [Addr.add,if_true] at e0
   cases ho:W.heap[b]? with
   | none=>simp [ho] at e0
   | some o=>exact (Array.getElem?_eq_some_iff.1 ho).1
  refine ⟨b,off,cs',n,_,rfl,hlt0,hcl,fun j v hj=>?_,ht'⟩
  have hjl:j < C:=by rw [<-hcl]; exact (List.getElem?_eq_some_iff.1 hj).1
  have:=hat j hjl
  rw [hj,Go.WideShapes.add_plain,Go.WideShapes.add_plain] at this
  exact this
theorem trod_digest {fuel:Nat} {cs:List Value} {x:DataW H × List MemPlace} (h:DataW.trod enc Tryz.prog W 0 (fun _=>true) true fuel 41 cs=some x):∃ p:Int × Int,cs=[.int .u64 p.1,.int .u64 p.2]/\(Lit.int .u64 p.1).wf=true/\(Lit.int .u64 p.2).wf=true:=by
 obtain ⟨xs,n,_,_,hl,hxl,hf⟩:=DataW.trod_array Tryz.underlying41 h
 rw [show Tryz.prog.cellsOf 41 = 2 by kernel_rfl] at hl
 match cs,hl with
 | [c0,c1],_=>
  match xs,hxl with
  | [x0,x1],_=>
   obtain ⟨o,e0,_,w0⟩:=DataW.trod_int Tryz.underlying39 (show DataW.trod enc Tryz.prog W 0 (fun _=>true) true n 39 [c0]=some x0 from hf 0 (by decide))
   obtain ⟨s,e1,_,w1⟩:=DataW.trod_int Tryz.underlying39 (show DataW.trod enc Tryz.prog W 0 (fun _=>true) true n 39 [c1]=some x1 from hf 1 (by decide))
   cases e0
   cases e1
   exact ⟨(o,s),rfl,w0,w1⟩
def DigsOk (ds:List (Int × Int)):Prop:=∀ d ∈ ds,(Lit.int .u64 d.1).wf=true/\(Lit.int .u64 d.2).wf=true
theorem open_digs {a:Option Addr} {len cap fuel:Nat} {x:DataW H × List MemPlace} (h:DataW.trod enc Tryz.prog W 0 (fun _=>true) true fuel 24 [.slice a len cap]=some x):(len<=cap/\cap<=maxLen)/\∃ ds:List (Int × Int),len=ds.length/\Digs W.heap.size W a ds/\DigsOk ds:=by
 obtain ⟨hl,hr⟩:=open_rows Tryz.underlying24 (C:=2) (by kernel_rfl) (by decide) h
 obtain ⟨ds,hds,hq⟩:=list_of (fun i (p:Int × Int)=>(∃ b off,a=some ⟨b,off,none⟩/\b < W.heap.size/\W.cell? ⟨b,off + i * 2,none⟩=some (.int .u64 p.1)/\W.cell? ⟨b,off + i * 2 + 1,none⟩=some (.int .u64 p.2))/\(Lit.int .u64 p.1).wf=true/\(Lit.int .u64 p.2).wf=true) len (fun i hi=>by
  obtain ⟨b,off,cs,n,y,ha,hb,_,hcell,ht⟩:=hr i hi
  obtain ⟨p,rfl,w0,w1⟩:=trod_digest ht
  exact ⟨p,⟨b,off,ha,hb,hcell 0 _ rfl,hcell 1 _ rfl⟩,w0,w1⟩)
 refine ⟨hl,ds,hds.symm,fun i hi=>(hq i hi).1,fun d hd=>?_⟩
 obtain ⟨i,hi,rfl⟩:=List.getElem_of_mem hd
 exact (hq i hi).2
theorem trod_slice_val {t e:TypeId} {fuel:Nat} {c:Value} {x:DataW H × List MemPlace} (ht:Tryz.prog.underlying t=some (.slice e)) (h:DataW.trod enc Tryz.prog W 0 (fun _=>true) true fuel t [c]=some x):∃ a len cap,c = .slice a len cap:=by
 rcases open_slice ht h with ⟨hcs,_⟩ | ⟨ad,l,c,m,n,D,Pl,hcs,_⟩
 ·simp at hcs; exact ⟨_,_,_,hcs⟩
 ·simp at hcs; exact ⟨_,_,_,hcs⟩
theorem okD_wf {d:Int × Int} (h0:(Lit.int .u64 d.1).wf=true) (h1:(Lit.int .u64 d.2).wf=true):OkD d:=by
 simp [Lit.wf,IntKind.min,IntKind.max,IntKind.signed,IntKind.bits] at h0 h1
 exact ⟨⟨by omega,by omega⟩,by omega,by omega⟩
theorem trod_ent {fuel:Nat} {cs:List Value} {x:DataW H × List MemPlace} (h:DataW.trod enc Tryz.prog W 0 (fun _=>true) true fuel 109 cs=some x):∃ e:Ent,cs=[.string ⟨e.name.toArray⟩,.bool e.dir,.int .u64 e.d.1,.int .u64 e.d.2]/\OkD e.d/\e.name.length<=maxLen:=by
 obtain ⟨xs,n,_,_,hl,hxl,hf⟩:=DataW.trod_struct Tryz.underlying109 h
 rw [show Tryz.prog.cellsOf 109 = 4 by kernel_rfl] at hl
 match cs,hl with
 | [c0,c1,c2,c3],_=>
  match xs,hxl with
  | [x0,x1,x2],_=>
   obtain ⟨s,e0,_,ws⟩:=DataW.trod_string Tryz.underlying9 (show DataW.trod enc Tryz.prog W 0 (fun _=>true) true n 9 [c0]=some x0 from hf 0 _ rfl)
   obtain ⟨b,e1,_⟩:=DataW.trod_bool Tryz.underlying4 (show DataW.trod enc Tryz.prog W 0 (fun _=>true) true n 4 [c1]=some x1 from hf 1 _ rfl)
   obtain ⟨d,e2,w0,w1⟩:=trod_digest (show DataW.trod enc Tryz.prog W 0 (fun _=>true) true n 41 [c2,c3]=some x2 from hf 2 _ rfl)
   cases e0
   cases e1
   cases e2
   exact ⟨⟨s.data.toList,b,d⟩,by rw [<-ba_eq (t:=s) rfl],okD_wf w0 w1,ws⟩
theorem open_ents {a:Option Addr} {len cap fuel:Nat} {x:DataW H × List MemPlace} (h:DataW.trod enc Tryz.prog W 0 (fun _=>true) true fuel 54 [.slice a len cap]=some x):(len<=cap/\cap<=maxLen)/\∃ es:List Ent,len=es.length/\Ents W.heap.size W a es/\∀ e ∈ es,OkD e.d/\e.name.length<=maxLen:=by
 obtain ⟨hl,hr⟩:=open_rows Tryz.underlying54 (C:=4) (by kernel_rfl) (by decide) h
 obtain ⟨es,hes,hq⟩:=list_of (fun i (e:Ent)=>(∃ b off,a=some ⟨b,off,none⟩/\b < W.heap.size/\W.cell? ⟨b,off + i * 4,none⟩=some (.string ⟨e.name.toArray⟩)/\W.cell? ⟨b,off + i * 4 + 1,none⟩=some (.bool e.dir)/\W.cell? ⟨b,off + i * 4 + 2,none⟩=some (.int .u64 e.d.1)/\W.cell? ⟨b,off + i * 4 + 3,none⟩=some (.int .u64 e.d.2))/\OkD e.d/\e.name.length<=maxLen) len (fun i hi=>by
  obtain ⟨b,off,cs,n,y,ha,hb,_,hcell,ht⟩:=hr i hi
  obtain ⟨e,rfl,w0,w1⟩:=trod_ent ht
  exact ⟨e,⟨b,off,ha,hb,hcell 0 _ rfl,hcell 1 _ rfl,hcell 2 _ rfl,hcell 3 _ rfl⟩,w0,w1⟩)
 refine ⟨hl,es,hes.symm,fun i hi=>(hq i hi).1,fun e he=>?_⟩
 obtain ⟨i,hi,rfl⟩:=List.getElem_of_mem he
 exact (hq i hi).2
structure ObCame (W:World) (o:Ob) (ea:Option Addr) (ec:Nat) (pa:Option Addr) (pc:Nat):Prop where
 ents:Ents W.heap.size W ea o.ents
 pars:Digs W.heap.size W pa o.pars
 ecap:o.ents.length<=ec/\ec<=maxLen
 pcap:o.pars.length<=pc/\pc<=maxLen
 ok:OkO o
 enam:∀ e ∈ o.ents,e.name.length<=maxLen
 dlen:o.data.length<=maxLen
 alen:o.author.length<=maxLen
 mlen:o.msg.length<=maxLen
theorem trod_ob {fuel:Nat} {cs:List Value} {x:DataW H × List MemPlace} (h:DataW.trod enc Tryz.prog W 0 (fun _=>true) true fuel 56 cs=some x) :
  ∃ (o:Ob) (ea:Option Addr) (ec:Nat) (pa:Option Addr) (pc:Nat),cs=(o.arr ea ec pa pc).toList/\ObCame W o ea ec pa pc:=by
 obtain ⟨xs,n,_,_,hl,hxl,hf⟩:=DataW.trod_struct Tryz.underlying56 h
 rw [show Tryz.prog.cellsOf 56 = 9 by kernel_rfl] at hl
 match cs,hl with
 | [c0,c1,c2,c3,c4,c5,c6,c7,c8],_=>
  match xs,hxl with
  | [x0,x1,x2,x3,x4,x5,x6,x7],_=>
   obtain ⟨kind,e0,_,_⟩:=DataW.trod_int Tryz.underlying3 (show DataW.trod enc Tryz.prog W 0 (fun _=>true) true n 3 [c0]=some x0 from hf 0 _ rfl)
   obtain ⟨s1,e1,_,w1⟩:=DataW.trod_string Tryz.underlying9 (show DataW.trod enc Tryz.prog W 0 (fun _=>true) true n 9 [c1]=some x1 from hf 1 _ rfl)
   have h2:DataW.trod enc Tryz.prog W 0 (fun _=>true) true n 54 [c2]=some x2:=hf 2 _ rfl
   obtain ⟨d,e3,w30,w31⟩:=trod_digest (show DataW.trod enc Tryz.prog W 0 (fun _=>true) true n 41 [c3,c4]=some x3 from hf 3 _ rfl)
   have h4:DataW.trod enc Tryz.prog W 0 (fun _=>true) true n 24 [c5]=some x4:=hf 4 _ rfl
   obtain ⟨s5,e5,_,w5⟩:=DataW.trod_string Tryz.underlying9 (show DataW.trod enc Tryz.prog W 0 (fun _=>true) true n 9 [c6]=some x5 from hf 5 _ rfl)
   obtain ⟨time,e6,_,_⟩:=DataW.trod_int Tryz.underlying3 (show DataW.trod enc Tryz.prog W 0 (fun _=>true) true n 3 [c7]=some x6 from hf 6 _ rfl)
   obtain ⟨s7,e7,_,w7⟩:=DataW.trod_string Tryz.underlying9 (show DataW.trod enc Tryz.prog W 0 (fun _=>true) true n 9 [c8]=some x7 from hf 7 _ rfl)
   obtain ⟨ea,el,ec,rfl⟩:=trod_slice_val Tryz.underlying54 h2
   obtain ⟨pa,pl,pc,rfl⟩:=trod_slice_val Tryz.underlying24 h4
   obtain ⟨hec,es,rfl,hes,hok⟩:=open_ents h2
   obtain ⟨hpc,ps,rfl,hps,hpok⟩:=open_digs h4
   cases e0
   cases e1
   cases e3
   cases e5
   cases e6
   cases e7
   refine ⟨⟨kind,s1.data.toList,es,d,ps,s5.data.toList,time,s7.data.toList⟩,ea,ec,pa,pc,?_,hes,hps,hec,hpc,⟨okD_wf w30 w31,fun p hp=>okD_wf (hpok p hp).1 (hpok p hp).2,fun e he=>(hok e he).1⟩,fun e he=>(hok e he).2,w1,w5,w7⟩
   simp only
theorem ObCame.inn {o:Ob} {ea:Option Addr} {ec:Nat} {pa:Option Addr} {pc:Nat} (h:ObCame W o ea ec pa pc):ObIn W o ea ec pa pc:=by
 have h1:=h.ecap
 have h2:=h.pcap
 have h3:=h.dlen
 have h4:=h.alen
 have h5:=h.mlen
 unfold maxLen at h1 h2 h3 h4 h5
 exact ⟨h.ents,h.pars,h2.1,by omega,fun e he=>by have:=h.enam e he; unfold maxLen at this; omega,fun e he=>⟨(h.ok.2.2 e he).1.1,(h.ok.2.2 e he).2.1⟩,by omega,fun d hd=>⟨(h.ok.2.1 d hd).1.1,(h.ok.2.1 d hd).2.1⟩,⟨h.ok.1.1.1,h.ok.1.2.1⟩,by omega,by omega,by omega⟩
end
theorem eqD_run (d:Nat) (x y x' y':Int) (W:World):(Op.equalIn (d + 2) 41 (.agg #[.int .u64 x,.int .u64 y]) (.agg #[.int .u64 x',.int .u64 y'])).run Tryz.prog W = .ok (x == x' && y == y') W:=by
 obtain ⟨i0,hi0,_,hs,_⟩:=info_parts infoU64
 have h:=run_equalIn_array W (d + 1) #[.int .u64 x,.int .u64 y] #[.int .u64 x',.int .u64 y'] Tryz.underlying41 hi0
 rw [cellsU64,show List.range 2=[0,1] from rfl] at h
 rw [h]
 have p0:∀ (a b:Int) (V:World),(Go.part 39 #[.int .u64 a,.int .u64 b] (0 * 1)).run Tryz.prog V = .ok (.int .u64 a) V:=fun a b V=>run_part_plain V plainU64 rfl
 have p1:∀ (a b:Int) (V:World),(Go.part 39 #[.int .u64 a,.int .u64 b] (1 * 1)).run Tryz.prog V = .ok (.int .u64 b) V:=fun a b V=>run_part_plain V plainU64 rfl
 have q:∀ (a b:Int) (V:World),(Op.equalIn (d + 1) 39 (.int .u64 a) (.int .u64 b)).run Tryz.prog V = .ok (a == b) V:=fun a b V=>run_equalIn_int V d _ _ _ a b Tryz.underlying39
 simp only [Op.eqItems,Sem.run_bind,p0,q,Result.andThen_ok]
 have p1':∀ (a b:Int) (V:World),(Go.part 39 #[.int .u64 a,.int .u64 b] 1).run Tryz.prog V = .ok (.int .u64 b) V:=p1
 by_cases h1:x=x' <;> by_cases h3:y=y' <;> simp [h1,h3,p1',q]
theorem neq_itm (x1 x2 y1 y2:Int) (s t:ByteArray) (W:World):(binOp .neq 63 (.agg #[.int .u64 x1,.int .u64 x2,.string s]) (.agg #[.int .u64 y1,.int .u64 y2,.string t])).run Tryz.prog W = .ok (.bool (!((x1 == y1 && x2 == y2) && s.toList == t.toList))) W:=by
 rw [run_neq_struct,run_equalIn_struct W 9999 63 _ _ (by kernel_rfl) (by kernel_rfl)]
 have hf : (Tryz.prog.fieldsOf 63).toList = [{ name := "Digest", type := 41, offset := 0, embedded := false, tag := "", pkgPath := "", byteOffset := 0 }, { name := "Data", type := 9, offset := 2, embedded := false, tag := "", pkgPath := "", byteOffset := 16 }] := by kernel_rfl
 rw [hf]
 have p0:∀ (a b:Int) (r:ByteArray) (V:World),(Go.part 41 #[.int .u64 a,.int .u64 b,.string r] 0).run Tryz.prog V = .ok (.agg #[.int .u64 a,.int .u64 b]) V:=fun a b r V=>by kernel_rfl
 have p2:∀ (a b:Int) (r:ByteArray) (V:World),(Go.part 9 #[.int .u64 a,.int .u64 b,.string r] 2).run Tryz.prog V = .ok (.string r) V:=fun a b r V=>by kernel_rfl
 have q0:=fun V=>eqD_run 9997 x1 x2 y1 y2 V
 have q1:=fun V=>run_equalIn_string (P:=Tryz.prog) V 9998 9 s t Tryz.underlying9
 simp only [Op.eqFields,Sem.run_bind,Sem.run_ite,p0,p2,q0,q1,Result.andThen_ok]
 cases h1:(x1 == y1 && x2 == y2) <;> cases h2:(s.toList == t.toList) <;> simp
theorem same_any (a b:Option Addr) (ds es:List Itm) (c c':Nat) (w:World) (h:Its w.heap.size w a ds) (h':Its w.heap.size w b es) (hn:(ds.length:Int)<=1000000000) (hn':(es.length:Int)<=1000000000) :
  Calls Tryz.prog 22 #[.slice a ds.length c,.slice b es.length c'] w fun e w'=>e = .returned (.bool (decide (ds=es)))/\Below w.heap.size w w':=by
 obtain ⟨R,hR⟩:∃ R,R=decide (ds=es):=⟨_,rfl⟩
 rw [<-hR]
 have HR:=hid hR
 have H:=hid h
 have H':=hid h'
 obtain ⟨n,hnn⟩:∃ n,n=ds.length:=⟨_,rfl⟩
 obtain ⟨m,hmm⟩:∃ m,m=es.length:=⟨_,rfl⟩
 rw [<-hnn] at hn ⊢
 rw [<-hmm] at hn' ⊢
 have HN:=hid hnn
 have HM:=hid hmm
 clear h h' hnn hmm hR
 by_cases hnm:n=m
 ·subst hnm
  have e1:((n:Int) != (n:Int))=false:=by simp
  go_enter Tryz.func22,Tryz.ntmps22
  go_wp2_with fail
  go_loopw [5] (fun i wr=>∃ k:Nat,k<=n/\i = .int .i64 k/\Hid (Below w.heap.size w wr)/\Hid (ds.take k=es.take k)) (fun i _=>n - (intOf i).toNat)
  case atStart=>exact ⟨0,by omega,rfl,hid (Below.refl _ _),hid rfl⟩
  case round=>
   obtain ⟨k,hk,rfl,HB,HT⟩:=hrel
   have hws:=HB.out.size
   by_cases hlt:k < n
   ·have h1:k < ds.length:=by have:=HN.out; omega
    have h2:k < es.length:=by have:=HM.out; omega
    obtain ⟨b0,o0,rfl,hb0,q0,q1,q2⟩:=(H.out.below HB.out (Nat.le_refl _)) k h1
    obtain ⟨b1,o1,rfl,hb1,r0,r1,r2⟩:=(H'.out.below HB.out (Nat.le_refl _)) k h2
    have HS:=hid (fun (h:ds[k]=es[k])=>take_eq_step HT.out h1 h2 h)
    have HD:=hid (fun (h:ds[k] ≠ es[k]) (e:ds=es)=>h (by subst e; rfl))
    generalize ds[k]=x at q0 q1 q2 HS HD
    generalize es[k]=y at r0 r1 r2 HS HD
    obtain ⟨⟨x1,x2⟩,xd⟩:=x
    obtain ⟨⟨y1,y2⟩,yd⟩:=y
    simp only at q0 q1 q2 r0 r1 r2
    have hq:=fun W=>neq_itm x1 x2 y1 y2 ⟨xd.toArray⟩ ⟨yd.toArray⟩ W
    have hsx:(⟨xd.toArray⟩:ByteArray).toList=xd:=by rw [Lib.toList_data]
    have hsy:(⟨yd.toArray⟩:ByteArray).toList=yd:=by rw [Lib.toList_data]
    rw [hsx,hsy] at hq
    clear hsx hsy
    cases hz:((x1 == y1 && x2 == y2) && xd == yd) with
    | true=>
     rw [hz] at hq
     have HT2:=hid (HS.out (by
      simp only [Bool.and_eq_true,beq_iff_eq] at hz
      rw [hz.1.1,hz.1.2,hz.2]))
     clear hz HS HD HT
     go_wp2_with fail
     go_quiet (fail)
     go_wp2_with fail
     go_roundw
     case rel=>exact ⟨k + 1,by omega,by go_num,hid (below_drewN HB.out _),HT2⟩
     case measure=>simp [intOf]; omega
    | false=>
     rw [hz] at hq
     have HF:Hid (R=false):=hid (by
      rw [HR.out]
      refine decide_eq_false (HD.out ?_)
      intro h
      simp only [Itm.mk.injEq,Prod.mk.injEq] at h
      simp [h.1.1,h.1.2,h.2] at hz)
     clear hz HS HD HT
     go_wp2_with fail
     go_quiet (fail)
     go_wp2_with fail
     go_ret
     exact ⟨by rw [HF.out]; rfl,below_drewN HB.out _⟩
   ·have HF:Hid (R=true):=hid (by
     rw [HR.out]
     exact decide_eq_true (eq_take_full (by rw [<-HN.out,<-HM.out]) k HT.out (by rw [<-HN.out]; omega)))
    go_wp2_with fail
    go_ret
    exact ⟨by rw [HF.out]; rfl,HB.out⟩
 ·have e1:((n:Int) != (m:Int))=true:=by simp; omega
  have e2:(n != m)=true:=by simpa using hnm
  have HF:Hid (R=false):=hid (by
   rw [HR.out]
   refine decide_eq_false (fun e=>hnm ?_)
   rw [HN.out,HM.out,e])
  clear hnm
  go_enter Tryz.func22,Tryz.ntmps22
  go_wp2_with fail
  go_ret
  exact ⟨by rw [HF.out]; rfl,Below.refl _ _⟩
theorem any_take_step {α:Type} {p:α->Bool} {l:List α} {k:Nat} (h:k < l.length) (h1:(l.take k).any p=false) (h2:p l[k]=false):(l.take (k + 1)).any p=false:=by
 rw [List.take_succ_eq_append_getElem h,List.any_append,h1]
 simp [h2]
theorem append_oneI {W:World} {base:Nat} {v:Value} {xs:List Itm} (hown:W.ownsRow base 63 3 v xs.length (icells xs)) (x1 x2:Int) (dt:List UInt8) (hlen:(xs.length:Int)<=100000000) (hbase:base<=W.heap.size) :
  ∃ v' W',(Builtin.append_ #[23,23] 23 #[v,.slice (some ⟨W.heap.size,0,none⟩) 1 1]).run Tryz.prog (W.alloc (.cells #[.int .u64 x1,.int .u64 x2,.string ⟨dt.toArray⟩] 63)) = .ok v' W'/\W'.ownsRow base 63 3 v' (xs ++ [(⟨(x1,x2),dt⟩:Itm)]).length (icells (xs ++ [(⟨(x1,x2),dt⟩:Itm)]))/\(W.alloc (.cells #[.int .u64 x1,.int .u64 x2,.string ⟨dt.toArray⟩] 63)).grownBy W' v.ownBlock/\(v'.ownBlock=v.ownBlock\/v'.ownBlock=some (W.heap.size + 1)):=by
 have h:=append_its (W.alloc (.cells #[.int .u64 x1,.int .u64 x2,.string ⟨dt.toArray⟩] 63)) base 23 v xs (hown.alloc _) (some ⟨W.heap.size,0,none⟩) [⟨(x1,x2),dt⟩] 1 (fun i hi=>by
  obtain rfl:i=0:=by simp at hi; omega
  have hk:=BK.new W #[.int .u64 x1,.int .u64 x2,.string ⟨dt.toArray⟩] 63
  exact ⟨_,0,rfl,hk.lt,by rw [Nat.zero_mul,hk.cell]; rfl,by rw [Nat.zero_mul,hk.cell]; rfl,by rw [Nat.zero_mul,hk.cell]; rfl⟩) (by simp; omega) (by simp; omega)
 simpa using h
def keepS (xs:List Itm) (l:List (Int × Int)):List Itm:=xs.filter fun x=>decide (x.d ∈ l)
theorem mem_take_or (l:List (Int × Int)) (k:Nat) (h:k < l.length) (d:Int × Int):(decide (d ∈ l.take k) || decide (d=l[k]))=decide (d ∈ l.take (k + 1)):=by
 rw [List.take_succ_eq_append_getElem h,<-Bool.decide_or]
 congr 1
 rw [List.mem_append,List.mem_singleton]
theorem keep_any (a:Option Addr) (xs:List Itm) (c:Nat) (la:Option Addr) (l:List (Int × Int)) (lc:Nat) (w:World) (hp:PoolIn w a xs c) (hl:Digs w.heap.size w la l) (hok:∀ d ∈ l,OkD d) (hxk:∀ x ∈ xs,OkD x.d) (hll:(l.length:Int)<=1000000) :
  Calls Tryz.prog 21 #[.slice a xs.length c,.slice la l.length lc] w (GotP w none (keepS xs l)):=by
 have hmm:=@run_makeMap Tryz.prog
 have HP:=hid hp.its
 have HL:=hid hl
 have HOK:=hid hok
 have HXK:=hid hxk
 have hxl:=hp.len
 obtain ⟨n,hn⟩:∃ n,n=xs.length:=⟨_,rfl⟩
 obtain ⟨m,hm⟩:∃ m,m=l.length:=⟨_,rfl⟩
 rw [<-hn] at hxl ⊢
 rw [<-hm] at hll ⊢
 have HN:=hid hn
 have HM:=hid hm
 clear hp hl hok hxk hn hm
 go_enter Tryz.func21,Tryz.ntmps21
 go_wp2_with fail
 go_loopw [14] (fun i wr=>∃ k:Nat,k<=m/\i = .int .i64 k/\Hid (MapD w.heap.size k (fun d=>decide (d ∈ l.take k)) wr)/\Hid (Below w.heap.size w wr)) (fun i _=>m - (intOf i).toNat)
 case atStart=>exact ⟨0,by omega,rfl,hid ((MapD.made w).eq (fun d=>by simp)),hid ((Below.refl _ w).alloc (Nat.le_refl _) _)⟩
 case round=>
  clear hmm
  obtain ⟨k,hk,rfl,HMP,HB⟩:=hrel
  have hws:=HB.out.size
  by_cases hlt:k < m
  ·have h1:k < l.length:=by have:=HM.out; omega
   obtain ⟨b0,o0,rfl,hb0,q0,q1⟩:=(HL.out.below HB.out (Nat.le_refl _)) k h1
   have hokd:=HOK.out _ (List.getElem_mem h1)
   have HMT:=hid (mem_take_or l k h1)
   generalize l[k]=d at q0 q1 hokd HMT
   obtain ⟨d1,d2⟩:=d
   simp only at q0 q1
   obtain ⟨u1,hup,hmp1,hgu⟩:=(HMP.out.alloc (.cells #[.int .u64 d1,.int .u64 d2] 41)).put hokd (by omega)
   have HMP1:=hid (hmp1.eq HMT.out)
   have HB1:Hid (Below w.heap.size w u1):=hid (below_of_grown (HB.out.alloc hws _) hgu (Nat.le_refl _))
   clear hmp1 hgu HMT
   go_wp2_with fail
   go_roundw
   case rel=>exact ⟨k + 1,by omega,by go_num,HMP1,HB1⟩
   case measure=>simp [intOf]; omega
  ·have HM2:Hid (MapD w.heap.size k (fun d=>decide (d ∈ l)) wr):=hid (by
    have h:=HMP.out
    rwa [List.take_of_length_le (by have:=HM.out; omega)] at h)
   have hmz:=HM2.out.lt
   clear HMP
   go_wp2_with fail
   go_loopw [8,23] (fun v i wx=>∃ j:Nat,j<=n/\i = .int .i64 j/\Hid (MapD w.heap.size k (fun d=>decide (d ∈ l)) wx)/\Hid (wx.ownsRow (w.heap.size + 1) 63 3 v (keepS (xs.take j) l).length (icells (keepS (xs.take j) l)))/\Hid (Below w.heap.size w wx)) (fun _ i _=>n - (intOf i).toNat)
   case atStart=>exact ⟨0,by omega,rfl,HM2,hid (World.ownsRow_nil _ _ _ _),HB⟩
   case round=>
    clear HM2 HB hws hmz
    obtain ⟨j,hj,rfl,HMP,HO,HB⟩:=hrel
    have hws:=HB.out.size
    have hmz:=HMP.out.lt
    obtain ⟨av,cv,rfl,hcap⟩:=ownsRow_sliceN HO.out
    have hkl:(keepS (xs.take j) l).length<=j:=Nat.le_trans (List.length_filter_le _ _) (List.length_take_le _ _)
    by_cases hjn:j < n
    ·have h1:j < xs.length:=by have:=HN.out; omega
     obtain ⟨b0,o0,rfl,hb0,q0,q1,q2⟩:=(HP.out.below HB.out (Nat.le_refl _)) j h1
     have hokx:=HXK.out _ (List.getElem_mem h1)
     have HKS:Hid (keepS (xs.take (j + 1)) l=keepS (xs.take j) l ++ (if xs[j].d ∈ l then [xs[j]] else [])):=hid (by
      unfold keepS
      rw [filter_take_succ _ xs j h1]
      congr 1
      by_cases h:xs[j].d ∈ l <;> simp [h])
     generalize xs[j]=x at q0 q1 q2 hokx HKS
     obtain ⟨⟨x1,x2⟩,dt⟩:=x
     simp only at q0 q1 q2 hokx HKS
     have HMP0:=hid (HMP.out.alloc (.cells #[.int .u64 x1,.int .u64 x2,.string ⟨dt.toArray⟩] 63))
     have hlk:=HMP0.out.look hokx
     have HO0:=hid (HO.out.alloc (.cells #[.int .u64 x1,.int .u64 x2,.string ⟨dt.toArray⟩] 63))
     have HB0:=hid (HB.out.alloc hws (.cells #[.int .u64 x1,.int .u64 x2,.string ⟨dt.toArray⟩] 63))
     have hjn':(j:Int) < (n:Int):=by omega
     by_cases hx:(x1,x2) ∈ l
     ·rw [decide_eq_true hx] at hlk
      rw [if_pos hx] at HKS
      obtain ⟨v',W',hrun,hown',hg',hat'⟩:=append_oneI HO0.out x1 x2 dt (by omega) (by simp; omega)
      have HO2:Hid (W'.ownsRow (w.heap.size + 1) 63 3 v' (keepS (xs.take (j + 1)) l).length (icells (keepS (xs.take (j + 1)) l))):=hid (by rw [HKS.out]; exact hown')
      have HM2:=hid ((HMP0.out.alloc (.cells #[.int .u64 x1,.int .u64 x2,.string ⟨dt.toArray⟩] 63)).kept hg' (own_map_ne HO.out (by omega)))
      have HB2:Hid (Below w.heap.size w W'):=hid ((HB0.out.alloc (by simp; omega) _).grown hg' (by simp; omega) (fun i hi=>by have:=(HO.out.lt _ hi).1; omega))
      rw [show (wr.alloc (.cells #[.int .u64 x1,.int .u64 x2,.string ⟨dt.toArray⟩] 63)).heap.size=wr.heap.size + 1 by simp] at hrun
      have HRUN:=hid hrun
      clear hrun hown' hg' hat' hx HKS HO0 HB0 HMP0 HMP HO
      generalize (keepS (xs.take j) l).length=kl at HRUN hcap hkl ⊢
      go_wp2_with (at_builtin; refine Lib.wpList_append_run _ rfl _ _ _ _ rfl _ _ rfl rfl _ _ HRUN.out ?_)
      go_roundw
      case rel=>exact ⟨j + 1,by omega,by go_num,HM2,HO2,HB2⟩
      case measure=>simp [intOf]; omega
     ·rw [decide_eq_false hx] at hlk
      rw [if_neg hx,List.append_nil] at HKS
      have HO2:Hid ((wr.alloc (.cells #[.int .u64 x1,.int .u64 x2,.string ⟨dt.toArray⟩] 63)).ownsRow (w.heap.size + 1) 63 3 (.slice av (keepS (xs.take j) l).length cv) (keepS (xs.take (j + 1)) l).length (icells (keepS (xs.take (j + 1)) l))):=hid (by rw [HKS.out]; exact HO0.out)
      clear hx HO0 HO HMP HKS
      generalize (keepS (xs.take j) l).length=kl at HO2 hcap hkl ⊢
      go_wp2_with fail
      go_roundw
      case rel=>exact ⟨j + 1,by omega,by go_num,HMP0,HO2,HB0⟩
      case measure=>simp [intOf]; omega
    ·have hfull:xs.take j=xs:=List.take_of_length_le (by have:=HN.out; omega)
     rw [hfull] at HO hcap hkl ⊢
     have HF:Hid (PoolAt w none [] (keepS xs l) av cv wr):=hid ⟨ownsRow_its HO.out,hcap,.inr (fun ad had=>by have:=own_new HO.out ad had; omega),HB.out⟩
     have HG:Hid (GotP w none (keepS xs l) (.returned (.slice av (keepS xs l).length cv)) wr):=hid ⟨av,cv,rfl,HF.out⟩
     clear hfull HO
     generalize (keepS xs l).length=kl at HG ⊢
     go_wp2_with fail
     go_ret
     exact HG.out
open Go.RowKit
theorem refOf_any (L:List UInt8) (w:World) (hs:(L.length:Int)<=140737488355328) :
  Calls Tryz.prog 42 #[.string ⟨L.toArray⟩] w fun e w'=>e = .returned (.agg #[.int .u64 (digS L).1,.int .u64 (digS L).2])/\Below w.heap.size w w':=by
 have HD:Hid (digS L=if L.foldl dig1 14695981039346656037=0/\L.foldl dig2 14695981039346656037=0 then (0,1) else (L.foldl dig1 14695981039346656037,L.foldl dig2 14695981039346656037)):=hid rfl
 obtain ⟨R1,R2,hR⟩:∃ R1 R2,digS L=(R1,R2):=⟨_,_,rfl⟩
 rw [hR] at HD ⊢
 clear hR
 obtain ⟨f,hf⟩:∃ f:List UInt8->Int,f=fun l=>l.foldl dig1 14695981039346656037:=⟨_,rfl⟩
 obtain ⟨g,hg⟩:∃ g:List UInt8->Int,g=fun l=>l.foldl dig2 14695981039346656037:=⟨_,rfl⟩
 have HF:Hid (∀ k (h:k < L.length),f (L.take (k + 1))=dig1 (f (L.take k)) L[k]):=hid (fun k h=>by rw [hf]; exact foldl_take _ _ _ _ h)
 have HG:Hid (∀ k (h:k < L.length),g (L.take (k + 1))=dig2 (g (L.take k)) L[k]):=hid (fun k h=>by rw [hg]; exact foldl_take _ _ _ _ h)
 have HF0:Hid (f (L.take 0)=14695981039346656037):=hid (by rw [hf]; rfl)
 have HG0:Hid (g (L.take 0)=14695981039346656037):=hid (by rw [hg]; rfl)
 have HD2:Hid ((R1,R2)=if f L=0/\g L=0 then (0,1) else (f L,g L)):=hid (by rw [hf,hg]; exact HD.out)
 clear hf hg HD
 go_enter Tryz.func42,Tryz.ntmps42
 go_wp2_with fail
 go_loop [3,4,5] (fun n m i=>∃ (k:Nat) (x y:Int),k<=L.length/\i = .int .i64 k/\n = .int .u64 x/\m = .int .u64 y/\Hid (x=f (L.take k))/\Hid (y=g (L.take k))) (fun _ _ i=>L.length - (intOf i).toNat)
 case atStart=>exact ⟨0,_,_,by omega,rfl,rfl,rfl,hid HF0.out.symm,hid HG0.out.symm⟩
 case round=>
  obtain ⟨k,x,y,hk,rfl,rfl,rfl,HX,HY⟩:=hrel
  by_cases hlt:k < L.length
  ·have HN:Hid (f (L.take (k + 1))=dig1 x L[k]):=hid (by rw [HX.out]; exact HF.out k hlt)
   have HM:Hid (g (L.take (k + 1))=dig2 y L[k]):=hid (by rw [HY.out]; exact HG.out k hlt)
   go_wp2_with fail
   go_round
   case rel=>exact ⟨k + 1,_,_,by omega,by go_num,rfl,rfl,hid (by rw [HN.out]; rfl),hid (by rw [HM.out]; rfl)⟩
   case measure=>simp [intOf]; omega
  ·have HN:Hid (f L=x):=hid (by rw [HX.out,List.take_of_length_le (by omega)])
   have HM:Hid (g L=y):=hid (by rw [HY.out,List.take_of_length_le (by omega)])
   rw [HN.out,HM.out] at HD2
   by_cases hx:x=0
   ·subst hx
    by_cases hy:y=0
    ·subst hy
     have HR:Hid (R1=0/\R2=1):=hid (by simpa using HD2.out)
     go_wp2_with fail
     refine bodyPost_ret (v:=.agg #[.int .u64 0,.int .u64 1]) (by simp [results,Tryz.results42,go_sem]) rfl ⟨by rw [HR.out.1,HR.out.2],?_⟩
     exact (Below.refl _ w).alloc (Nat.le_refl _) _
    ·have HR:Hid (R1=0/\R2=y):=hid (by simpa [hy] using HD2.out)
     have hy':(y == 0)=false:=by simpa using hy
     clear hy
     go_wp2_with fail
     refine bodyPost_ret (v:=.agg #[.int .u64 0,.int .u64 y]) (by simp [results,Tryz.results42,go_sem]) rfl ⟨by rw [HR.out.1,HR.out.2],?_⟩
     exact (Below.refl _ w).alloc (Nat.le_refl _) _
   ·have HR:Hid (R1=x/\R2=y):=hid (by simpa [hx] using HD2.out)
    have hx':(x == 0)=false:=by simpa using hx
    clear hx
    go_wp2_with fail
    refine bodyPost_ret (v:=.agg #[.int .u64 x,.int .u64 y]) (by simp [results,Tryz.results42,go_sem]) rfl ⟨by rw [HR.out.1,HR.out.2],?_⟩
    exact (Below.refl _ w).alloc (Nat.le_refl _) _
def pgreatS (xs:List Itm):Bool:=decide (40 < xs.length) || xs.any fun x=>decide (500 < x.data.length)
theorem pgreatS_false {xs:List Itm} (h:pgreatS xs=false):xs.length<=40/\∀ x ∈ xs,x.data.length<=500:=by
 simp only [pgreatS,Bool.or_eq_false_iff,decide_eq_false_iff_not,List.any_eq_false] at h
 exact ⟨by omega,fun x hx=>by have:=h.2 x hx; simp at this; omega⟩
theorem pgreat_any (a:Option Addr) (xs:List Itm) (c:Nat) (w:World) (h:Its w.heap.size w a xs) (hl:(xs.length:Int)<=9223372036854775807) (hd:∀ x ∈ xs,(x.data.length:Int)<=9223372036854775807) :
  Calls Tryz.prog 29 #[.slice a xs.length c] w fun e w'=>e = .returned (.bool (pgreatS xs))/\w=w':=by
 obtain ⟨R,hR⟩:∃ R,R=pgreatS xs:=⟨_,rfl⟩
 rw [<-hR]
 unfold pgreatS at hR
 have H:=hid h
 have HD:=hid hd
 obtain ⟨n,hn⟩:∃ n,n=xs.length:=⟨_,rfl⟩
 rw [<-hn] at hR hl ⊢
 have HN:=hid hn
 clear h hd hn
 by_cases h40:(40:Int) < (n:Int)
 ·have d1:decide ((40:Int) < (n:Int))=true:=by simpa using h40
  have HF:Hid (R=true):=hid (by rw [hR,decide_eq_true (show 40 < n by omega)]; simp)
  clear hR
  go_enter Tryz.func29,Tryz.ntmps29
  go_wp2_with fail
  go_ret
  exact ⟨by rw [HF.out]; rfl,rfl⟩
 ·have d1:decide ((40:Int) < (n:Int))=false:=by simpa using h40
  have b1:decide (40 < n)=false:=by simp; omega
  have HR:Hid (R=xs.any fun x=>decide (500 < x.data.length)):=hid (by rw [hR,b1,Bool.false_or])
  clear hR b1
  go_enter Tryz.func29,Tryz.ntmps29
  go_wp2_with fail
  go_loop [3] (fun i=>∃ k:Nat,k<=n/\i = .int .i64 k/\Hid ((xs.take k).any (fun x=>decide (500 < x.data.length))=false)) (fun i=>n - (intOf i).toNat)
  case atStart=>exact ⟨0,by omega,rfl,hid rfl⟩
  case round=>
   obtain ⟨k,hk,rfl,HA⟩:=hrel
   by_cases hlt:k < n
   ·have h1:k < xs.length:=by have:=HN.out; omega
    obtain ⟨b0,o0,rfl,hb0,q0,q1,q2⟩:=H.out k h1
    have hdl:=HD.out _ (List.getElem_mem h1)
    have HST:=hid (fun h2=>any_take_step (p:=fun x:Itm=>decide (500 < x.data.length)) h1 HA.out h2)
    have HT:Hid (500 < xs[k].data.length->R=true):=hid (fun h2=>by rw [HR.out,List.any_eq_true]; exact ⟨_,List.getElem_mem h1,by simpa using h2⟩)
    generalize xs[k]=x at q2 hdl HST HT
    obtain ⟨xd,dt⟩:=x
    simp only at q2 hdl HST HT
    clear q0 q1
    have hlt':(k:Int) < (n:Int):=by omega
    by_cases hn5:(500:Int) < (dt.length:Int)
    ·have d2:decide ((500:Int) < (dt.length:Int))=true:=by simpa using hn5
     have HF:Hid (R=true):=hid (HT.out (by omega))
     clear HST HT
     go_wp2_with fail
     go_ret
     exact ⟨by rw [HF.out]; rfl,rfl⟩
    ·have d2:decide ((500:Int) < (dt.length:Int))=false:=by simpa using hn5
     have HA2:=hid (HST.out (by simp; omega))
     clear HST HT HA
     go_wp2_with fail
     go_round
     case rel=>exact ⟨k + 1,by omega,by go_num,HA2⟩
     case measure=>simp [intOf]; omega
   ·have HF:Hid (R=false):=hid (by rw [HR.out,<-List.take_of_length_le (l:=xs) (i:=k) (by have:=HN.out; omega)]; exact HA.out)
    go_wp2_with fail
    go_ret
    exact ⟨by rw [HF.out]; rfl,rfl⟩
theorem cmpD_lt {x y x' y':Int} (h:x < x'):cmpD (x,y) (x',y') = -1:=by
 have:=cmpD_range (x,y) (x',y')
 simp only at this
 omega
theorem cmpD_gt {x y x' y':Int} (h:x' < x):cmpD (x,y) (x',y')=1:=by
 have:=cmpD_range (x,y) (x',y')
 simp only at this
 omega
theorem refCmp_any (x y x' y':Int) (w:World):Calls Tryz.prog 64 #[.agg #[.int .u64 x,.int .u64 y],.agg #[.int .u64 x',.int .u64 y']] w fun e w'=>e = .returned (.int .i64 (cmpD (x,y) (x',y')))/\Below w.heap.size w w':=by
 obtain ⟨R,hR⟩:∃ R,R=cmpD (x,y) (x',y'):=⟨_,rfl⟩
 rw [<-hR]
 have HR:=hid hR
 clear hR
 go_enter Tryz.func64,Tryz.ntmps64
 go_wp2_with fail
 go_loopw [5] (fun i wr=>∃ k q:Nat,k<=2/\i = .int .i64 k/\wr=((w.alloc (.cells #[.int .u64 x,.int .u64 y] 41)).alloc (.cells #[.int .u64 x',.int .u64 y'] 41)).drewN q/\Hid ((1<=k->x=x')/\(2<=k->y=y'))) (fun i _=>2 - (intOf i).toNat)
 case atStart=>exact ⟨0,0,by omega,rfl,rfl,hid ⟨by omega,by omega⟩⟩
 case round=>
  obtain ⟨k,q,hk,rfl,rfl,HK⟩:=hrel
  by_cases hk0:k=0
  ·subst hk0
   by_cases h1:x < x'
   ·have d1:decide (x < x')=true:=by simpa using h1
    have HF:Hid (R = -1):=hid (by rw [HR.out,cmpD_lt h1])
    clear h1 HK HR
    go_wp2_with fail
    go_quiet (fail)
    go_wp2_with fail
    go_ret
    exact ⟨by rw [HF.out]; rfl,below_drewN (below_drewN (((Below.refl _ w).alloc (Nat.le_refl _) _).alloc (by simp) _) _) _⟩
   ·have d1:decide (x < x')=false:=by simpa using h1
    by_cases h2:x' < x
    ·have d2:decide (x' < x)=true:=by simpa using h2
     have HF:Hid (R=1):=hid (by rw [HR.out,cmpD_gt h2])
     clear h1 h2 HK HR
     go_wp2_with fail
     go_quiet (fail)
     go_wp2_with fail
     go_quiet (fail)
     go_wp2_with fail
     go_ret
     exact ⟨by rw [HF.out]; rfl,below_drewN (below_drewN (below_drewN (((Below.refl _ w).alloc (Nat.le_refl _) _).alloc (by simp) _) _) _) _⟩
    ·have d2:decide (x' < x)=false:=by simpa using h2
     have HE:Hid (x=x'):=hid (by omega)
     clear h1 h2 HK
     go_wp2_with fail
     go_quiet (fail)
     go_wp2_with fail
     go_quiet (fail)
     go_wp2_with fail
     go_roundw
     case rel=>exact ⟨1,_,by omega,by go_num,by first | rfl | (simp only [World.drewN_drewN]; rfl),hid ⟨fun _=>HE.out,by omega⟩⟩
     case measure=>simp [intOf]
  ·by_cases hk1:k=1
   ·subst hk1
    have HX:=hid (HK.out.1 (by omega))
    by_cases h1:y < y'
    ·have d1:decide (y < y')=true:=by simpa using h1
     have HF:Hid (R = -1):=hid (by
      rw [HR.out]
      have:=cmpD_range (x,y) (x',y')
      have:=HX.out
      simp only at *
      omega)
     clear h1 HK HR hk0
     go_wp2_with fail
     go_quiet (fail)
     go_wp2_with fail
     go_ret
     exact ⟨by rw [HF.out]; rfl,below_drewN (below_drewN (((Below.refl _ w).alloc (Nat.le_refl _) _).alloc (by simp) _) _) _⟩
    ·have d1:decide (y < y')=false:=by simpa using h1
     by_cases h2:y' < y
     ·have d2:decide (y' < y)=true:=by simpa using h2
      have HF:Hid (R=1):=hid (by
       rw [HR.out]
       have:=cmpD_range (x,y) (x',y')
       have:=HX.out
       simp only at *
       omega)
      clear h1 h2 HK HR hk0
      go_wp2_with fail
      go_quiet (fail)
      go_wp2_with fail
      go_quiet (fail)
      go_wp2_with fail
      go_ret
      exact ⟨by rw [HF.out]; rfl,below_drewN (below_drewN (below_drewN (((Below.refl _ w).alloc (Nat.le_refl _) _).alloc (by simp) _) _) _) _⟩
     ·have d2:decide (y' < y)=false:=by simpa using h2
      have HE:Hid (y=y'):=hid (by omega)
      clear h1 h2 HK hk0
      go_wp2_with fail
      go_quiet (fail)
      go_wp2_with fail
      go_quiet (fail)
      go_wp2_with fail
      go_roundw
      case rel=>exact ⟨2,_,by omega,by go_num,by first | rfl | (simp only [World.drewN_drewN]; rfl),hid ⟨fun _=>HX.out,fun _=>HE.out⟩⟩
      case measure=>simp [intOf]
   ·obtain rfl:k=2:=by omega
    have HF:Hid (R=0):=hid (by rw [HR.out,HK.out.1 (by omega),HK.out.2 (by omega),cmpD_self])
    clear HK HR hk0 hk1
    go_wp2_with fail
    go_ret
    exact ⟨by rw [HF.out]; rfl,below_drewN (((Below.refl _ w).alloc (Nat.le_refl _) _).alloc (by simp) _) _⟩
end Go.Proofs.YtijkieiihpiljaaGreat
