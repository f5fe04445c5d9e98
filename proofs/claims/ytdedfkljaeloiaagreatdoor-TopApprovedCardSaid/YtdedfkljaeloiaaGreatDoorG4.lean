/- Joined texts: TtAs, TtKs, TtSw, TtSx, TtSz, TtSy. -/
import Derived.Test.YtdedfkljaeloiaaGreatDoorG3
import Derived.Test.YtdedfkljaeloiaaGreatDoorTtLk
import Derived.RangeFuncBox
import Derived.RangeFuncWrites
import Derived.Maps.AppendAt
import Derived.Shelf.Slices.In.SortNone
import Derived.Test.YtdedfkljaeloiaaGreatDoorG1
import Derived.Test.YtdedfkljaeloiaaGreatDoorG2
import Derived.Test.YtdedfkljaeloiaaGreatDoorTtDa
/- slices.AppendSeq and slices.Collect at texts,against an iterator. -/
set_option maxRecDepth 100000
set_option maxHeartbeats 16000000
open Go.Lib (hid)
namespace Go.Proofs.YtdedfkljaeloiaaGreatDoor
open Go.RowKit Go.Shelf Go.Sort
set_option linter.unusedVariables false
attribute [local go_sem] Oper.semAt_some
theorem infoStr:(Tryz.prog.info? 9).map (fun i=>(i.zero,i.size,i.bytes))=some (some (.string ⟨#[]⟩),1,16):=by kernel_rfl
theorem appSeq_any {base gf N:Nat} {lb:Array Value} {S Sp:List (List UInt8)->Prop} {v0:Value} {xs:List (List UInt8)} (w:World) (eg:∀ args w,(callFunc gf args).run Tryz.prog w = .ok (.enter gf args) w)
  (hseq:SeqStops Fence.wide (5 - 1) Tryz.prog gf lb encStr S Sp N w) (hrow0:w.ownsRow base 9 1 v0 xs.length (xs.map encStr)) (hbase:base<=w.heap.size) (hN:(xs.length:Int) + N<=1000000) :
  Calls Tryz.prog 51 #[v0,.func (.func gf) #[] lb] w fun e w'=>∃ v ss,e = .returned v/\S ss/\w'.ownsRow base 9 1 v (xs ++ ss).length ((xs ++ ss).map encStr)/\Below base w w':=by
 obtain ⟨i0,hi,hz0,hz1,hz2⟩:=info_parts infoStr
 obtain ⟨a0,c0,hv0,_⟩:=ownsRow_sliceN hrow0
 obtain ⟨n0,hn0⟩:∃ n0,n0=xs.length:=⟨_,rfl⟩
 rw [<-hn0] at hv0
 subst hv0
 have HN0:=hid hn0
 have hN0:(n0:Int) + N<=1000000:=by omega
 rw [<-hn0] at hrow0
 clear hn0 hN
 refine (callsIn_wide (n:=5)).1 ?_
 refine callsIn_of_wp_marks Tryz.func51 rfl trivial ?_ rfl
 simp only [Tryz.ntmps51,List.size_toArray,List.length_cons,List.length_nil,Nat.reduceAdd,Nat.reduceSub,Array.replicate_succ,Array.replicate_zero,List.push_toArray,List.append_toArray,List.nil_append,List.cons_append]
 have bO:=Boxed.new w 44 (.slice a0 n0 c0)
 have hB0:Below base w (w.alloc (.cells #[(.slice a0 n0 c0)] 44)):=(Below.refl _ w).alloc hbase _
 have hBw:Below w.heap.size w (w.alloc (.cells #[(.slice a0 n0 c0)] 44)):=(Below.refl _ w).alloc (Nat.le_refl _) _
 gi_wp2
 refine wpIn_rangeFunc_ownF (F:=Fence.wide) (n:=5) (w0:=w) rfl (by omega) (gf:=gf) (lb:=lb) rfl trivial eg
  (show SeqStopsK Fence.wide (5 - 1) Tryz.prog gf lb (fun x=>#[encStr x]) KeepsWalks S Sp N w from hseq) walksK_t walksK_b hBw (fun _=>rfl)
  (fun pre W=>(∃ v,Boxed W w.heap.size 44 v/\W.ownsRow base 9 1 v (xs ++ pre).length ((xs ++ pre).map encStr)/\True)/\Below base w W)
  (fun _ _ _=>False)
  (OwnFrom.and (Own.from (holdsRow_own base w.heap.size 44 9 1 (fun pre=>(xs ++ pre).length) (fun pre=>(xs ++ pre).map encStr) (fun pre v=>True)) _) (ownFrom_below hbase (by simp; omega)))
  (fun _ _ _ _ _ hs _ _=>hs)
  ⟨⟨_,bO,by rw [List.append_nil,<-HN0.out]; exact hrow0.alloc _,trivial⟩,hB0⟩
  (fun x=>{ tmps:=#[.slice a0 n0 c0,.func (.func gf) #[] lb,.pointer (some ⟨w.heap.size,0,none⟩),undef,.slice none 0 0,encStr x,.func (.func gf) #[] lb,encStr x,undef,undef,undef,undef,undef],defers:=[] }) ?assign ?body ?done ?stop
 case assign=>
  intro l x W K hK
  gi_wp2
  exact hK
 case body=>
  rintro l pre x W ⟨⟨v,hv,hrow,_⟩,hB⟩ hlt
  have hc:=hv.cell
  have hbW:base<=W.heap.size:=Nat.le_trans hbase hB.size
  obtain ⟨q,hq⟩:∃ q,q=(xs ++ pre).length:=⟨_,rfl⟩
  rw [<-hq] at hrow
  have HQ:=hid hq
  have hln:q + 1<=1000001:=by rw [hq,List.length_append,<-HN0.out]; omega
  clear hq
  gi_wp2_with (gi_at_builtin; refine wpListIn_append_own _ rfl _ _ 44 rfl base 9 i0 (.string ⟨#[]⟩) 1 16 Tryz.underlying44 hi hz0 hz1 hz2 rfl (by decide) _ _ _ rfl (hrow.alloc _) ⟨W.heap.size,0,none⟩ 1 1 [encStr x] rfl rfl (cell_one_new _ _ _) (by simp [encStr,Value.oneCell']) (by unfold maxLen; omega) (by omega) (by simp; omega) ?_; intro v' w1 hown' hgrow _; obtain ⟨g',cap',rfl⟩:=ownsRow_succ hown'; obtain ⟨hv1,hv2,hr2,hk2,hb2⟩:=hv.appended (by decide) hrow hbW hbase hown' hgrow; have hc1:=hv1.cell; have hf1:=hv1.frozen)
  have e:(xs ++ (pre ++ [x])).length=q + 1:=by rw [HQ.out,<-List.append_assoc,List.length_append]; rfl
  have hr3:(w1.setCell ⟨w.heap.size,0,none⟩ (.slice (some ⟨g',0,none⟩) (q + 1) cap')).ownsRow base 9 1 (.slice (some ⟨g',0,none⟩) (q + 1) cap') (xs ++ (pre ++ [x])).length ((xs ++ (pre ++ [x])).map encStr):=by
   rw [e,<-List.append_assoc,List.map_append]; exact hr2
  exact ⟨hk2,hk2.walks,⟨⟨_,hv2,hr3,trivial⟩,hB.trans hb2⟩⟩
 case done=>
  rintro D ys W hD hS ⟨⟨v,hv,hrow,_⟩,hB⟩ hK
  have hbW:base<=W.heap.size:=Nat.le_trans hbase hB.size
  have hc:=hv.cell
  gi_wp2
  refine ⟨by simp,.inl ⟨_,_,rfl,run_takeDeferred hK,?_⟩⟩
  exact ⟨_,results_tmp rfl _ _ _,v,ys,rfl,hS,ownsRow_putObj hrow _ hK rfl,hB.trans ((Below.refl _ W).grown (grownBy_putObj' _ D _) hbW (fun k hk=>by cases hk; have:=hD; simp at this; omega))⟩
 case stop=>
  rintro D c pre W _ _ h _
  exact h.elim
theorem MapS.kept' {b n:Nat} {F:Pa->Option Value} {W W':World} (h:MapS b n F W) (hb:Below W.heap.size W W'):MapS b n F W':=h.below hb
theorem has_F {b n:Nat} {F:Pa->Option Value} {W:World} {D:DataW Value} (h:∀ s z,D.atKey (.string s) z=optT (F s) z) (x:Pa):Maps.has D (.string x)=(F x).isSome:=has_optT (h x)
theorem keysF_any {b n:Nat} {F:Pa->Option Value} {w:World} (h:MapS b n F w):Calls Tryz.prog 50 #[.map (some b)] w fun e w'=>e = .returned (.func (.func 82) #[] #[.pointer (some ⟨w.heap.size,0,none⟩)])/\w' = w.alloc (.cells #[.map (some b)] 103):=
 (callsIn_wide (n:=5)).1 (AnyZ.keys_in Tryz.keysF Fence.wide 5 trivial rfl (some b) w)
theorem keysB_any {b n:Nat} {F:Pa->Option Value} {w:World} (h:MapS b n F w):Calls Tryz.prog 52 #[.map (some b)] w fun e w'=>e = .returned (.func (.func 83) #[] #[.pointer (some ⟨w.heap.size,0,none⟩)])/\w' = w.alloc (.cells #[.map (some b)] 102):=
 (callsIn_wide (n:=5)).1 (AnyZ.keys_in Tryz.keysB Fence.wide 5 trivial rfl (some b) w)
def KeysOf' (F:Pa->Option Value) (ss:List Pa):Prop:=ss.Nodup/\∀ x,x ∈ ss ↔ (F x).isSome=true
theorem keysF_stops {b n:Nat} {F:Pa->Option Value} {w:World} (h:MapS b n F w) {B:Nat} (hB:B < w.heap.size) (hm:w.cell? ⟨B,0,none⟩=some (.map (some b))) :
  ∃ Sp,SeqStops Fence.wide (5 - 1) Tryz.prog 82 #[.pointer (some ⟨B,0,none⟩)] encStr (KeysOf' F) Sp n w:=by
 obtain ⟨D,h1,h2⟩:=h
 have hn:=strKeys_nodup h1
 have hs:=h1.size_le
 have hst:=AnyZ.keys_stops (ρ:=Tryz.keysF_ren) { Tryz.keysF with } Fence.wide (5 - 1) trivial rfl (by omega) B b n D w hB hm h1
 refine ⟨fun pre=>pre.Nodup/\∀ x,x ∈ pre->Maps.has D (.string x)=true,fun l J Jx W hW hJ hJx hY h0=>?_⟩
 refine (hst l J Jx W hW hJ hJx (fun pre x W1 hj hl=>hY pre x W1 hj (by omega)) h0).mono ?_
 rintro e W' ⟨hv,(⟨ss,⟨hp,hm⟩,hj⟩ | hx)⟩
 ·exact ⟨hv,.inl ⟨ss,⟨hp.nodup_iff.2 hn,fun x=>by rw [hm x,has_F (b:=b) (n:=n) (W:=w) h2]⟩,hj⟩⟩
 ·exact ⟨hv,.inr hx⟩
theorem keysB_stops {b n:Nat} {F:Pa->Option Value} {w:World} (h:MapS b n F w) {B:Nat} (hB:B < w.heap.size) (hm:w.cell? ⟨B,0,none⟩=some (.map (some b))) :
  ∃ Sp,SeqStops Fence.wide (5 - 1) Tryz.prog 83 #[.pointer (some ⟨B,0,none⟩)] encStr (KeysOf' F) Sp n w:=by
 obtain ⟨D,h1,h2⟩:=h
 have hn:=strKeys_nodup h1
 have hs:=h1.size_le
 have hst:=AnyZ.keys_stops (ρ:=Tryz.keysB_ren) { Tryz.keysB with } Fence.wide (5 - 1) trivial rfl (by omega) B b n D w hB hm h1
 refine ⟨fun pre=>pre.Nodup/\∀ x,x ∈ pre->Maps.has D (.string x)=true,fun l J Jx W hW hJ hJx hY h0=>?_⟩
 refine (hst l J Jx W hW hJ hJx (fun pre x W1 hj hl=>hY pre x W1 hj (by omega)) h0).mono ?_
 rintro e W' ⟨hv,(⟨ss,⟨hp,hm⟩,hj⟩ | hx)⟩
 ·exact ⟨hv,.inl ⟨ss,⟨hp.nodup_iff.2 hn,fun x=>by rw [hm x,has_F (b:=b) (n:=n) (W:=w) h2]⟩,hj⟩⟩
 ·exact ⟨hv,.inr hx⟩
theorem collect_any {base gf N:Nat} {lb:Array Value} {S Sp:List (List UInt8)->Prop} (w:World) (eg:∀ args w,(callFunc gf args).run Tryz.prog w = .ok (.enter gf args) w)
  (hseq:SeqStops Fence.wide (5 - 1) Tryz.prog gf lb encStr S Sp N w) (hbase:base<=w.heap.size) (hN:(N:Int)<=1000000) :
  Calls Tryz.prog 49 #[.func (.func gf) #[] lb] w fun e w'=>∃ v ss,e = .returned v/\S ss/\w'.ownsRow base 9 1 v ss.length (ss.map encStr)/\Below base w w':=by
 have H:=hid (appSeq_any (base:=base) (v0:=.slice none 0 0) (xs:=[]) w eg hseq (World.ownsRow_nil _ _ _ _) hbase (by simpa using hN))
 go_enter Tryz.func49,Tryz.ntmps49
 go_wp2_with fail
 (with_reducible refine H.out.mono ?_)
 rintro e w' ⟨v,ss,rfl,hS,hrow,hb⟩
 go_wp2_with fail
 go_ret
 exact ⟨v,ss,rfl,hS,hrow,hb⟩
theorem le_iff (a b:Pa):a<=b ↔ ¬ ltS b a:=by rw [ltS_iff]; exact List.not_lt.symm
theorem sorted_names {ss ns:List Pa} (hp:ss.Perm ns) (hn:ns.Pairwise ltS):(ss.mergeSort fun x y=>decide (x<=y))=ns:=by
 refine List.Perm.eq_of_pairwise (le:=fun a b:Pa=>decide (a<=b)=true) (fun a b _ _ h1 h2=>?_) (List.pairwise_mergeSort (fun a b c h1 h2=>?_) (fun a b=>?_) _) (hn.imp (fun {a b} h=>?_)) ((List.mergeSort_perm _ _).trans hp)
 ·simp only [decide_eq_true_eq] at h1 h2
  exact List.le_antisymm h1 h2
 ·simp only [decide_eq_true_eq] at *
  exact List.le_trans h1 h2
 ·simp only [Bool.or_eq_true,decide_eq_true_eq]
  exact List.le_total a b
 ·rw [decide_eq_true_eq,le_iff]
  exact fun h2=>ltS_irrefl _ (ltS_trans h h2)
theorem putRow_enc (W:World) (g:Nat) (ns:List Pa):putRow encStr W g 0 ns.toArray=putRow id W g 0 (ns.map encStr).toArray:=by
 unfold putRow
 have e:putCells encStr 0 ns.toArray=putCells id 0 (ns.map encStr).toArray:=by
  funext cs
  unfold putCells
  congr 1
  funext k x
  by_cases hk:k < ns.length
  ·rw [if_pos ⟨Nat.zero_le _,by simpa using hk⟩,if_pos ⟨Nat.zero_le _,by simpa using hk⟩,getElem!_pos ns.toArray _ (by simpa using hk),getElem!_pos (ns.map encStr).toArray _ (by simpa using hk)]
   simp
  ·rw [if_neg (by rintro ⟨_,h⟩; exact hk (by simpa using h)),if_neg (by rintro ⟨_,h⟩; exact hk (by simpa using h))]
 rw [e]
theorem sortStr_any {base:Nat} (a:Option Addr) (c:Nat) (ss ns:List Pa) (w:World) (ho:w.ownsRow base 9 1 (.slice a ss.length c) ss.length (ss.map encStr)) (hp:ss.Perm ns) (hn:ns.Pairwise ltS) (hl:ss.length<=1000000) :
  Calls Tryz.prog 53 #[.slice a ss.length c] w fun e w'=>e = .returned (.tuple #[])/\w'.ownsRow base 9 1 (.slice a ss.length c) ns.length (ns.map encStr)/\w.grownBy w' (Value.slice a ss.length c).ownBlock:=by
 rcases ho.2 with ⟨h1,h2⟩ | ⟨g,cap,cur,h1,hbase,hg,hcap,hmax,hcs,htake⟩
 ·have hd:ss=[]:=List.eq_nil_of_length_eq_zero h2
  subst hd
  have hl0:ns=[]:=List.Perm.eq_nil (hp.symm)
  subst hl0
  have:=Any.slices_Sort_string_none Tryz.sortStr a c w
  refine Calls.mono this fun e w' ⟨he,hw⟩=>⟨he,?_,?_⟩
  ·rw [hw]; exact ho
  ·rw [hw]; exact ⟨rfl,rfl,rfl,Nat.le_refl _,fun _ _ _=>rfl⟩
 ·cases h1
  have hH:Holds encStr w g 0 ss.toArray:=by
   intro j hj
   have hj':j < ss.length:=by simpa using hj
   refine ⟨?_,Lib.frozen_of_heap hg _⟩
   rw [Lib.cell_of_heap hg,Nat.zero_add]
   have h3:(cur.toList.take (ss.length * 1))[j]? = (ss.map encStr)[j]?:=by rw [htake]
   rw [List.getElem?_take_of_lt (by omega),Array.getElem?_toList] at h3
   rw [h3,List.getElem?_map,List.getElem?_eq_getElem hj',getElem!_pos _ j hj]
   simp
  have hcon:=Any.slices_Sort_string Tryz.sortStr g 0 c ss w hH (Array.getElem?_eq_some_iff.1 hg).1 (by omega)
  rw [sorted_names hp hn] at hcon
  have hcon2:Calls Tryz.prog 53 #[.slice (some ⟨g,0,none⟩) ss.length c] w _:=hcon
  refine hcon2.mono fun e w' ⟨he,n,os,hw⟩=>⟨he,?_,?_⟩
  ·rw [hw]
   rw [putRow_enc]
   have hl2:(ns.map encStr).length=ss.length * 1:=by rw [List.length_map,hp.length_eq,Nat.mul_one]
   have hln:ns.length=ss.length:=hp.length_eq.symm
   rw [hln]
   exact ⟨hl2,.inr ⟨g,c,_,rfl,hbase,heap_sortedD _ hg,hcap,hmax,by simp [putCells,hcs],by rw [<-hl2]; exact take_putCellsD cur _ (by rw [hl2,hcs]; exact Nat.mul_le_mul_right _ hcap)⟩⟩
  ·rw [hw]
   rw [putRow_enc]
   exact grownBy_sortedD _
open Go.RowKit
theorem inside_app (l m:List Fl) (nm:Pa):insideS (l ++ m) nm=insideS l nm ++ insideS m nm:=by unfold insideS; rw [List.filter_append,List.map_append]
theorem inside_one (x:Fl) (nm:Pa):insideS [x] nm=if deepS x=true/\firstS x=nm then [restS' x] else []:=by
 unfold insideS
 by_cases h:deepS x=true/\firstS x=nm
 ·rw [if_pos h,List.filter_cons_of_pos (by simp [h.1,h.2])]; rfl
 ·rw [if_neg h,List.filter_cons_of_neg (by simpa using h)]; rfl
def filesM (l:List Fl) (nm:Pa):Option Fl:=(l.filter fun x=>!deepS x && decide (firstS x=nm)).getLast?
theorem files_app (l:List Fl) (x:Fl) (nm:Pa):filesM (l ++ [x]) nm=if deepS x=false/\firstS x=nm then some x else filesM l nm:=by
 unfold filesM
 by_cases h:deepS x=false/\firstS x=nm
 ·rw [if_pos h,List.filter_append,List.filter_cons_of_pos (by simp [h.1,h.2])]; simp
 ·rw [if_neg h,List.filter_append,List.filter_cons_of_neg (by simpa using h)]; simp
theorem files_some {l:List Fl} {nm:Pa} {x:Fl} (h:filesM l nm=some x):x ∈ l/\deepS x=false/\firstS x=nm:=by
 unfold filesM at h
 have:=List.mem_of_getLast? h
 simpa using this
theorem files_none {l:List Fl} {nm:Pa} (h:filesM l nm=none):∀ x ∈ l,deepS x=false->firstS x ≠ nm:=by
 unfold filesM at h
 rw [List.getLast?_eq_none_iff,List.filter_eq_nil_iff] at h
 intro x hx h1 h2
 have:=h x hx
 simp [h1,h2] at this
theorem files_find {l:List Fl} (ha:AscF l) {nm:Pa} (hs:(47:UInt8) ∉ nm):filesM l nm=(findF l nm).map (fun d=>⟨nm,d⟩):=by
 cases hf:filesM l nm with
 | some x=>
  obtain ⟨h1,h2,h3⟩:=files_some hf
  have hp:x.path=nm:=by rw [(flat_path h2).1,h3]
  cases hg:findF l nm with
  | some d=>
   have:=ascF_same ha h1 (findF_some hg) hp
   rw [this]; rfl
  | none=>exact absurd hp (findF_none hg x h1)
 | none=>
  cases hg:findF l nm with
  | none=>rfl
  | some d=>
   have hm:=findF_some hg
   have hd:deepS (⟨nm,d⟩:Fl)=false:=by
    cases hd:deepS (⟨nm,d⟩:Fl) with
    | false=>rfl
    | true=>
     have:=(deep_path hd).1
     exact absurd (by rw [show nm=_ from this]; simp) hs
   have h1:=files_none hf _ hm hd
   exact absurd (flat_path hd).1.symm h1
theorem name_slash {l:List Fl} {nm:Pa} (h:nm ∈ namesS l):(47:UInt8) ∉ nm:=by
 obtain ⟨x,_,e⟩:=names_mem.1 h
 rw [<-e]; exact first_no
theorem names_perm {n:Nat} {l:List Fl} (h:OkF n l) {sf sb:List Pa} (h1:sf.Nodup) (h2:∀ x,x ∈ sf ↔ (filesM l x).isSome=true) (h3:sb.Nodup) (h4:∀ x,x ∈ sb ↔ insideS l x ≠ []):(sf ++ sb).Perm (namesS l):=by
 refine (List.perm_ext_iff_of_nodup ?_ (names_nodup l)).2 ?_
 ·rw [List.nodup_append]
  refine ⟨h1,h3,?_⟩
  intro a ha b hb e
  subst e
  obtain ⟨x,hx⟩:=Option.isSome_iff_exists.1 ((h2 a).1 ha)
  obtain ⟨x1,x2,x3⟩:=files_some hx
  obtain ⟨y',hy'⟩:=List.exists_mem_of_ne_nil _ ((h4 a).1 hb)
  obtain ⟨y,y1,y2,y3,_⟩:=inside_mem.1 hy'
  refine h.free x x1 y y1 (restS' y).path ?_
  rw [(deep_path y2).1,(flat_path x2).1,y3,x3]
 ·intro a
  rw [List.mem_append,h2,h4,names_mem]
  constructor
  ·rintro (h5 | h5)
   ·obtain ⟨x,hx⟩:=Option.isSome_iff_exists.1 h5
    obtain ⟨x1,_,x3⟩:=files_some hx
    exact ⟨x,x1,x3⟩
   ·obtain ⟨y',hy'⟩:=List.exists_mem_of_ne_nil _ h5
    obtain ⟨y,y1,_,y3,_⟩:=inside_mem.1 hy'
    exact ⟨y,y1,y3⟩
  ·rintro ⟨x,hx,e⟩
   cases hd:deepS x with
   | true=>exact .inr (fun h5=>by have:=inside_mem.2 ⟨x,hx,hd,e,rfl⟩; rw [h5] at this; cases this)
   | false=>
    refine .inl ?_
    cases hf:filesM l a with
    | some _=>rfl
    | none=>exact absurd e (files_none hf x hx hd)
def cntF (l:List Fl) (nm:Pa):Nat:=(l.filter fun x=>decide (firstS x=nm)).length
def costF (n:Nat) (l:List Fl) (ns:List Pa):Nat:=(ns.map fun nm=>cntF l nm * n).sum
theorem cnt_pos {l:List Fl} {nm:Pa} (h:nm ∈ namesS l):1<=cntF l nm:=by
 obtain ⟨x,hx,e⟩:=names_mem.1 h
 unfold cntF
 exact List.length_pos_of_mem (a:=x) (by simp [hx,e])
theorem inside_cnt (l:List Fl) (nm:Pa):(insideS l nm).length<=cntF l nm:=by
 unfold insideS cntF
 rw [List.length_map,<-List.countP_eq_length_filter,<-List.countP_eq_length_filter]
 exact List.countP_mono_left (fun x _ h=>by simp only [Bool.and_eq_true] at h; exact h.2)
theorem cost_names (n:Nat) (l:List Fl):costF n l (namesS l)=l.length * n:=by
 have hp:=(perm_parts firstS (namesS l) l (names_nodup l) (fun x hx=>names_mem.2 ⟨x,hx,rfl⟩)).length_eq
 rw [List.length_flatMap] at hp
 unfold costF cntF
 rw [hp]
 generalize namesS l=ns
 induction ns with
 | nil=>simp
 | cons a ns ih=>simp only [List.map_cons,List.sum_cons,ih,Nat.add_mul]
theorem cost_drop {n:Nat} {l:List Fl} {ns:List Pa} {k:Nat} (hk:k < ns.length):costF n l (ns.drop k)=cntF l ns[k] * n + costF n l (ns.drop (k + 1)):=by
 unfold costF
 rw [List.drop_eq_getElem_cons hk,List.map_cons,List.sum_cons]
theorem put_casesT {xs:List Itm} (ha:Asc xs) (o:Ob):(putS xs o).1=[]\/∃ S,encodeS o=(S,0)/\Asc (putS xs o).1/\(∀ y,y ∈ (putS xs o).1 ↔ y ∈ xs\/y=⟨digS S,S⟩)/\(putS xs o).1.length<=xs.length + 1:=by
 by_cases he:(encodeS o).2=0
 ·by_cases hi:(insS xs ⟨digS (encodeS o).1,(encodeS o).1⟩).2=0
  ·obtain ⟨a,b,c⟩:=ins_law ha (show insS xs ⟨digS (encodeS o).1,(encodeS o).1⟩=((insS xs ⟨digS (encodeS o).1,(encodeS o).1⟩).1,0) by rw [<-hi])
   right
   refine ⟨(encodeS o).1,Prod.ext rfl he,?_⟩
   unfold putS
   rw [if_neg (by simpa using he),if_neg (by simpa using hi)]
   exact ⟨a,b,c⟩
  ·left; unfold putS; rw [if_neg (by simpa using he),if_pos hi]
 ·left; unfold putS; rw [if_pos he]
theorem put_inn {w w':World} {a ra:Option Addr} {xs:List Itm} {c rc:Nat} {o:Ob} (ha:Asc xs) (hp:PoolIn w a xs c) (hn:(xs.length:Int) + 1<=100000000) (h:PoolAt w a xs (putS xs o).1 ra rc w'):PoolIn w' ra (putS xs o).1 rc/\Asc (putS xs o).1/\(putS xs o).1.length<=xs.length + 1:=by
 rcases put_casesT ha o with h1 | ⟨S,h1,h4,h2,h3⟩
 ·rw [h1]
  exact ⟨⟨Its.nil _ _ _,Nat.zero_le _,by simp,by simp⟩,asc_nil,Nat.zero_le _⟩
 ·refine ⟨⟨h.1,h.2.1,by omega,fun x hx=>?_⟩,h4,h3⟩
  rcases (h2 x).1 hx with h5 | rfl
  ·exact hp.dat x h5
  ·have:=encodeS_len o
   rw [h1] at this
   simp only at this ⊢
   omega
open Go.RowKit Go.Shelf
def flV (x:Fl):Value:=.agg #[.string ⟨x.path.toArray⟩,.string ⟨x.data.toArray⟩]
structure Bel (base mb fb nb nf:Nat) (pre:List Fl) (R:Pa->Value) (W:World):Prop where
 mB:MapS mb nb (fun s=>if insideS pre s=[] then none else some (R s)) W
 mF:MapS fb nf (fun s=>(filesM pre s).map flV) W
 row:∀ s,W.ownsRow base 55 2 (R s) (insideS pre s).length (gcs flCs (insideS pre s))
 nil:∀ s,insideS pre s=[]->R s = .slice none 0 0
 sep:∀ s s' k,s ≠ s'->(R s).ownBlock=some k->(R s').ownBlock ≠ some k
 lb:mb < base
 lf:fb < base
 ne:mb ≠ fb
 bb:base<=W.heap.size
section
variable {base mb fb nb nf:Nat} {pre:List Fl} {R:Pa->Value} {W W':World}
theorem Bel.below (h:Bel base mb fb nb nf pre R W) (hb:Below W.heap.size W W'):Bel base mb fb nb nf pre R W':=
 ⟨h.mB.below hb,h.mF.below hb,fun s=>own_below (h.row s) hb,h.nil,h.sep,h.lb,h.lf,h.ne,Nat.le_trans h.bb hb.size⟩
theorem Bel.start (W:World):Bel (W.heap.size + 2) W.heap.size (W.heap.size + 1) 0 0 [] (fun _=>.slice none 0 0) ((W.alloc (.map #[] 0)).alloc (.map #[] 0)):=by
 refine ⟨((MapS.made W).alloc _).eq (fun d=>by simp [insideS]),?_,fun s=>World.ownsRow_nil _ _ _ _,fun _ _=>rfl,fun _ _ k _ h=>(by cases h),(by omega),(by omega),(by omega),(by simp)⟩
 have h:=MapS.made (W.alloc (.map #[] 0))
 rw [World.size_alloc] at h
 exact h.eq (fun d=>rfl)
theorem zeroRowF (W:World):(zeroValue 23).run Tryz.prog W = .ok (.slice none 0 0) W:=by kernel_rfl
theorem zeroFl (W:World):(zeroValue 55).run Tryz.prog W = .ok (flV ⟨[],[]⟩) W:=by kernel_rfl
theorem Bel.look (h:Bel base mb fb nb nf pre R W) {s:Pa} (hs:s.length<=1000000):(Instr.lookup 102 (.map (some mb)) (.string ⟨s.toArray⟩) false).run Tryz.prog W = .ok (R s) W:=by
 have h1:=h.mB.look Tryz.underlying102 (zeroRowF W) hs
 rw [h1]
 by_cases e:insideS pre s=[]
 ·rw [if_pos e,h.nil s e]; rfl
 ·rw [if_neg e]; rfl
theorem Bel.lookF (h:Bel base mb fb nb nf pre R W) {s:Pa} (hs:s.length<=1000000):(Instr.lookup 103 (.map (some fb)) (.string ⟨s.toArray⟩) true).run Tryz.prog W = .ok (.tuple #[flV ((filesM pre s).getD ⟨[],[]⟩),.bool (filesM pre s).isSome]) W:=by
 have h1:=h.mF.lookOk Tryz.underlying103 (zeroFl W) hs
 rw [h1]
 cases filesM pre s <;> rfl
theorem Bel.flat (h:Bel base mb fb nb nf pre R W) {x:Fl} (hd:deepS x=false) (hs:(firstS x).length<=1000000) (hn:(nf:Int)<=1000000000) :
  ∃ W',(Instr.mapUpdate 103 (.map (some fb)) (.string ⟨(firstS x).toArray⟩) (flV x)).run Tryz.prog W = .ok () W'/\Bel base mb fb nb (nf + 1) (pre ++ [x]) R W'/\W.grownBy W' (some fb):=by
 obtain ⟨W',h1,h2,h3,h4⟩:=h.mF.put Tryz.underlying103 hs hn (flV x)
 have hin:∀ s,insideS (pre ++ [x]) s=insideS pre s:=fun s=>by rw [inside_app,inside_one,if_neg (by rw [hd]; simp),List.append_nil]
 refine ⟨W',h1,⟨(h.mB.kept h3 (fun e=>h.ne (Option.some.inj e))).eq (fun s=>by rw [hin]),h2.eq (fun s=>?_),fun s=>?_,fun s e=>h.nil s (by rw [<-hin]; exact e),h.sep,h.lb,h.lf,h.ne,by rw [h4]; exact h.bb⟩,h3⟩
 ·rw [files_app]
  by_cases e:s=firstS x
  ·rw [if_pos e,if_pos ⟨hd,e.symm⟩]; rfl
  ·rw [if_neg e,if_neg (fun h5=>e h5.2.symm)]
 ·rw [hin]; exact own_kept (h.row s) h3 h.lf
theorem Bel.deep (h:Bel base mb fb nb nf pre R W) {x:Fl} (hd:deepS x=true) (hs:(firstS x).length<=1000000) (hn:(nb:Int)<=1000000000) (hl:(pre.length:Int)<=1000000) :
  ∃ v' W2 W',(Builtin.append_ #[23,23] 23 #[R (firstS x),.slice (some ⟨W.heap.size,0,none⟩) 1 1]).run Tryz.prog (W.alloc (.cells #[.string ⟨(cutS x.path).2.1.toArray⟩,.string ⟨x.data.toArray⟩] 55)) = .ok v' W2/\
   (Instr.mapUpdate 102 (.map (some mb)) (.string ⟨(firstS x).toArray⟩) v').run Tryz.prog W2 = .ok () W'/\Bel base mb fb (nb + 1) nf (pre ++ [x]) (fun s=>if s=firstS x then v' else R s) W'/\Below mb W W':=by
 have hil:(((insideS pre (firstS x)).length:Nat):Int)<=1000000:=by
  have:(insideS pre (firstS x)).length<=pre.length:=by unfold insideS; rw [List.length_map]; exact List.length_filter_le _ _
  omega
 obtain ⟨v',W2,hr,ho,hg,hb⟩:=append_fl rfl (h.row (firstS x)) (restS' x) hil h.bb
 have hg1:W.grownBy (W.alloc (.cells (flCs (restS' x)).toArray 55)) (R (firstS x)).ownBlock:=World.grownBy_alloc _ _ _
 have hlow:∀ k,(R (firstS x)).ownBlock=some k->base<=k:=fun k hk=>((h.row (firstS x)).lt k hk).1
 have hm2:MapS mb nb (fun s=>if insideS pre s=[] then none else some (R s)) W2:=(h.mB.alloc _).kept hg (fun e=>by have:=hlow mb e.symm; have:=h.lb; omega)
 have hf2:MapS fb nf (fun s=>(filesM pre s).map flV) W2:=(h.mF.alloc _).kept hg (fun e=>by have:=hlow fb e.symm; have:=h.lf; omega)
 obtain ⟨W',h1,h2,h3,h4⟩:=hm2.put Tryz.underlying102 hs hn v'
 have hsz:W.heap.size + 1<=W2.heap.size:=by have:=hg.size; simpa using this
 have hin:∀ s,insideS (pre ++ [x]) s=insideS pre s ++ if s=firstS x then [restS' x] else []:=fun s=>by
  rw [inside_app,inside_one]
  by_cases e:s=firstS x
  ·rw [if_pos e,if_pos ⟨hd,e.symm⟩]
  ·rw [if_neg e,if_neg (fun h5=>e h5.2.symm)]
 refine ⟨v',W2,W',hr.out,h1,⟨h2.eq (fun s=>?_),(hf2.kept h3 (fun e=>h.ne (Option.some.inj e).symm)).eq (fun s=>?_),fun s=>?_,fun s e=>?_,fun s s' k hne hk=>?_,h.lb,h.lf,h.ne,by have:=h.bb; omega⟩,?_⟩
 ·rw [hin]
  by_cases e:s=firstS x
  ·rw [if_pos e,if_pos e,if_neg (by simp),if_pos e]
  ·rw [if_neg e,if_neg e,List.append_nil]
   simp only [if_neg e]
 ·rw [files_app,if_neg (by rw [hd]; simp)]
 ·rw [hin]
  by_cases e:s=firstS x
  ·subst e
   rw [if_pos rfl,if_pos rfl,List.length_append,List.length_singleton]
   exact own_kept ho h3 h.lb
  ·rw [if_neg e,if_neg e,List.append_nil]
   refine own_kept (((h.row s).alloc _).kept hg ?_) h3 h.lb
   cases hv:(R s).ownBlock with
   | none=>exact .inl rfl
   | some k=>exact .inr (fun e2=>h.sep s (firstS x) k e hv e2.symm)
 ·rw [hin] at e
  by_cases e2:s=firstS x
  ·rw [if_pos e2] at e; simp at e
  ·rw [if_neg e2,List.append_nil] at e
   rw [if_neg e2]; exact h.nil s e
 ·have hlt:∀ s k,(R s).ownBlock=some k->k < W.heap.size:=fun s k hk=>((h.row s).lt k hk).2
  by_cases e:s=firstS x
  ·rw [if_pos e] at hk
   rw [if_neg (fun e2=>hne (by rw [e,e2]))]
   rcases hb with hb | hb
   ·rw [hb] at hk
    exact h.sep _ _ k (fun e2=>hne (by rw [e,e2])) hk
   ·rw [hb] at hk
    cases hk
    intro e2
    have:=hlt s' _ e2
    omega
  ·rw [if_neg e] at hk
   by_cases e2:s' = firstS x
   ·rw [if_pos e2]
    rcases hb with hb | hb
    ·rw [hb]; exact h.sep _ _ k (by rw [<-e2]; exact hne) hk
    ·rw [hb]; intro e3; cases e3; have:=hlt s _ hk; omega
   ·rw [if_neg e2]; exact h.sep _ _ k hne hk
 ·have hb1:Below mb W (W.alloc (.cells (flCs (restS' x)).toArray 55)):=(Below.refl _ W).alloc (by have:=h.lb; have:=h.bb; omega) _
  exact (hb1.grown hg (by have:=h.lb; have:=h.bb; simp; omega) (fun k e=>by have:=hlow k e; have:=h.lb; omega)).grown h3 (by have:=h.lb; have:=h.bb; omega) (fun k e=>by cases e; omega)
end
def GotSt (w:World) (pa:Option Addr) (ps:List Itm) (r:StR) (e:Ending) (w':World):Prop:=∃ ra rc,e = .returned (.tuple #[.slice ra r.1.length rc,.agg #[.int .u64 r.2.1.1,.int .u64 r.2.1.2],.int .i64 r.2.2])/\PoolAt w pa ps r.1 ra rc w'/\PoolIn w' ra r.1 rc/\Asc r.1
def obC (v:Value):Array Value:=#[.int .i64 2,.string ⟨#[]⟩,v,.int .u64 0,.int .u64 0,.slice none 0 0,.string ⟨#[]⟩,.int .i64 0,.string ⟨#[]⟩]
structure St2 (w X:World) (n:Nat) (a:Option Addr) (xs:List Itm) (l:List Fl) (k:Nat) (P:List Itm) (pa:Option Addr) (pc:Nat) (es:List Ent) (v:Value) (W:World):Prop where
 be:Below X.heap.size X W
 sz:X.heap.size < W.heap.size
 pin:PoolIn W pa P pc
 asc:Asc P
 pat:(pa=a/\P=xs)\/∀ ad,pa=some ad->X.heap.size + 1<=ad.block
 pne:∀ ad,pa=some ad->0 < P.length->ad.block ≠ X.heap.size/\v.ownBlock ≠ some ad.block
 bo:BK X.heap.size (obC v) 100 W
 ow:W.ownsRow (X.heap.size + 1) 111 4 v es.length (ecells es)
 el:es.length=k
 en:∀ e ∈ es,e.name.length<=1000/\0<=e.d.1/\0<=e.d.2
 eq:storeF (n + 1) xs l=storeGo (storeF n) l ((namesS l).drop k) P es
 co:P.length + costF (n + 1) l ((namesS l).drop k)<=xs.length + l.length * (n + 1)
theorem name_cell {W:World} {base:Nat} {a:Option Addr} {c k:Nat} {ns:List Pa} (ho:W.ownsRow base 9 1 (.slice a ns.length c) ns.length (ns.map encStr)) (hk:k < ns.length):∃ g off,a=some ⟨g,off,none⟩/\W.cell? ⟨g,off + k,none⟩=some (.string ⟨ns[k].toArray⟩):=by
 rcases ho.2 with ⟨_,h2⟩ | ⟨g,cap,cur,h1,_⟩
 ·omega
 ·cases h1
  refine ⟨g,0,rfl,?_⟩
  have h:=ho.cells (g:=g) rfl k (.string ⟨ns[k].toArray⟩) (by rw [List.getElem?_map,List.getElem?_eq_getElem hk]; rfl)
  rwa [Go.WideShapes.add_plain] at h
section
variable {w X:World} {n:Nat} {a:Option Addr} {xs:List Itm} {l:List Fl} {k:Nat} {P:List Itm} {pa:Option Addr} {pc:Nat} {es:List Ent} {v:Value} {W:World}
theorem its_lt {B:Nat} {W:World} {a:Option Addr} {xs:List Itm} (h:Its B W a xs):∀ ad,a=some ad->0 < xs.length->ad.block < B:=fun ad ha hn=>by
 obtain ⟨b,off,h1,h2,_⟩:=h 0 hn
 rw [ha] at h1
 cases h1
 exact h2
theorem grownBy_setCellX (W:World) (b j:Nat) (v:Value):W.grownBy (W.setCell ⟨b,j,none⟩ v) (some b):=⟨rfl,rfl,rfl,by simp [World.setCell],fun k _ hk=>Below.heap_setCell _ _ _ k (fun e=>hk (by rw [e]))⟩
theorem Its.grown {B:Nat} {W W':World} {a:Option Addr} {xs:List Itm} {r:Option Nat} (h:Its B W a xs) (hB:B<=W.heap.size) (hg:W.grownBy W' r) (hne:∀ ad,a=some ad->0 < xs.length->r ≠ some ad.block):Its B W' a xs:=by
 intro i hi
 obtain ⟨b,off,rfl,hlt,h0,h1,h2⟩:=h i hi
 have hk:=hg.block b (by omega) (fun e=>hne _ rfl (by omega) e.symm)
 exact ⟨b,off,rfl,hlt,(World.cell?_of_block (a:=⟨b,off + i * 3,none⟩) hk).trans h0,(World.cell?_of_block (a:=⟨b,off + i * 3 + 1,none⟩) hk).trans h1,(World.cell?_of_block (a:=⟨b,off + i * 3 + 2,none⟩) hk).trans h2⟩
theorem PoolIn.grown {W W':World} {a:Option Addr} {xs:List Itm} {c:Nat} {r:Option Nat} (h:PoolIn W a xs c) (hg:W.grownBy W' r) (hne:∀ ad,a=some ad->0 < xs.length->r ≠ some ad.block):PoolIn W' a xs c:=⟨(h.its.grown (Nat.le_refl _) hg hne).mono hg.size,h.cap,h.len,h.dat⟩
theorem St2.step (h:St2 w X n a xs l k P pa pc es v W) {Uc:World} (hb:Below W.heap.size W Uc) {nm:Pa} {dir:Bool} (he:BK W.heap.size #[.string ⟨nm.toArray⟩,.bool dir,.int .u64 0,.int .u64 0] 111 Uc) {g1 g2:Int} {Q:List Itm} {ra:Option Addr} {rc:Nat} {W0:World} (hW0:W.heap.size < W0.heap.size) (hin:PoolIn Uc ra Q rc) (hasc:Asc Q) (hat:(ra=pa/\Q=P)\/∀ ad,ra=some ad->W0.heap.size<=ad.block)
  (hn:nm.length<=1000) (hg1:0<=g1) (hg2:0<=g2) (hk:k<=1000) (heq:storeF (n + 1) xs l=storeGo (storeF n) l ((namesS l).drop (k + 1)) Q (es ++ [⟨nm,dir,(g1,g2)⟩])) (hco:Q.length + costF (n + 1) l ((namesS l).drop (k + 1))<=xs.length + l.length * (n + 1)) :
  ∃ v' W2,Hid ((Builtin.append_ #[97,97] 97 #[v,.slice (some ⟨((Uc.setCell ⟨W.heap.size,2,none⟩ (.int .u64 g1)).setCell ⟨W.heap.size,3,none⟩ (.int .u64 g2)).heap.size,0,none⟩) 1 1]).run Tryz.prog (((Uc.setCell ⟨W.heap.size,2,none⟩ (.int .u64 g1)).setCell ⟨W.heap.size,3,none⟩ (.int .u64 g2)).alloc (.cells #[.string ⟨nm.toArray⟩,.bool dir,.int .u64 g1,.int .u64 g2] 111)) = .ok v' W2)/\
   BK W.heap.size #[.string ⟨nm.toArray⟩,.bool dir,.int .u64 g1,.int .u64 g2] 111 ((Uc.setCell ⟨W.heap.size,2,none⟩ (.int .u64 g1)).setCell ⟨W.heap.size,3,none⟩ (.int .u64 g2))/\
   BK X.heap.size (obC v) 100 ((Uc.setCell ⟨W.heap.size,2,none⟩ (.int .u64 g1)).setCell ⟨W.heap.size,3,none⟩ (.int .u64 g2))/\BK X.heap.size (obC v) 100 W2/\
   St2 w X n a xs l (k + 1) Q ra rc (es ++ [⟨nm,dir,(g1,g2)⟩]) v' (W2.setCell ⟨X.heap.size,2,none⟩ v'):=by
 have hsz:=h.sz
 have hbs:=hb.size
 obtain ⟨U1,hU1⟩:∃ U1,U1=Uc.setCell ⟨W.heap.size,2,none⟩ (.int .u64 g1):=⟨_,rfl⟩
 obtain ⟨W1,hW1⟩:∃ W1,W1=U1.setCell ⟨W.heap.size,3,none⟩ (.int .u64 g2):=⟨_,rfl⟩
 have he1:BK W.heap.size #[.string ⟨nm.toArray⟩,.bool dir,.int .u64 g1,.int .u64 0] 111 U1:=by rw [hU1]; exact he.set 2 _
 have he2:BK W.heap.size #[.string ⟨nm.toArray⟩,.bool dir,.int .u64 g1,.int .u64 g2] 111 W1:=by rw [hW1]; exact he1.set 3 _
 have hb1:Below W.heap.size W W1:=by rw [hW1,hU1]; exact (hb.setCell (Nat.le_refl _) _).setCell (Nat.le_refl _) _
 have hz1:W1.heap.size=Uc.heap.size:=by rw [hW1,hU1]; simp [World.setCell]
 have hlow:∀ j,v.ownBlock=some j->X.heap.size + 1<=j/\j < W.heap.size:=fun j hj=>h.ow.lt j hj
 have hpa:∀ ad,ra=some ad->0 < Q.length->ad.block ≠ W.heap.size/\ad.block ≠ X.heap.size/\v.ownBlock ≠ some ad.block:=by
  intro ad e hq
  rcases hat with ⟨h1,h2⟩ | h1
  ·rw [h1] at e
   rw [h2] at hq
   have h3:=its_lt h.pin.its ad e hq
   rcases h.pat with ⟨h4,h5⟩ | h4
   ·obtain ⟨g5,g6⟩:=h.pne ad e hq
    exact ⟨by omega,g5,g6⟩
   ·obtain ⟨g5,g6⟩:=h.pne ad e hq
    exact ⟨by omega,g5,g6⟩
  ·have h3:=h1 ad e
   exact ⟨by omega,by omega,fun e2=>by have:=(hlow _ e2).2; omega⟩
 have hin1:PoolIn W1 ra Q rc:=by
  rw [hW1,hU1]
  exact (hin.grown (grownBy_setCellX _ _ _ _) (fun ad e hq e2=>(hpa ad e hq).1 (Option.some.inj e2).symm)).grown (grownBy_setCellX _ _ _ _) (fun ad e hq e2=>(hpa ad e hq).1 (Option.some.inj e2).symm)
 obtain ⟨v',W2,hrun,hown,hg,hv'⟩:=append_ents (W1.alloc (.cells #[.string ⟨nm.toArray⟩,.bool dir,.int .u64 g1,.int .u64 g2] 111)) (X.heap.size + 1) 97 v es ((own_below h.ow hb1).alloc _) (some ⟨W1.heap.size,0,none⟩) [⟨nm,dir,(g1,g2)⟩] 1 (fun i hi=>by
  obtain rfl:i=0:=by simp at hi; omega
  have hk:=BK.new W1 #[.string ⟨nm.toArray⟩,.bool dir,.int .u64 g1,.int .u64 g2] 111
  exact ⟨_,0,rfl,hk.lt,by rw [Nat.zero_mul,hk.cell]; rfl,by rw [Nat.zero_mul,hk.cell]; rfl,by rw [Nat.zero_mul,hk.cell]; rfl,by rw [Nat.zero_mul,hk.cell]; rfl⟩) (by have:=h.el; simp; omega) (by simp; omega)
 have hbo1:BK X.heap.size (obC v) 100 W1:=h.bo.below hb1
 have hbo:BK X.heap.size (obC v) 100 W2:=(hbo1.alloc _).grow hg (fun j e hj=>by have:=(hlow j e).1; omega)
 have hset:(W2.setCell ⟨X.heap.size,2,none⟩ v').heap.size=W2.heap.size:=by simp [World.setCell]
 have hs2:W1.heap.size + 1<=W2.heap.size:=by have:=hg.size; simpa using this
 rw [<-hU1,<-hW1]
 have hbX:Below X.heap.size X (W2.setCell ⟨X.heap.size,2,none⟩ v'):=(((h.be.trans (hb1.mono (by omega))).alloc (by have:=h.be.size; have:=hb1.size; omega) _).grown hg (by have:=h.be.size; have:=hb1.size; simp; omega) (fun j e=>by have:=(hlow j e).1; omega)).setCell (Nat.le_refl _) _
 refine ⟨v',W2,hid hrun,he2,hbo1,hbo,hbX,by omega,?_,hasc,?_,fun ad e hq=>⟨(hpa ad e hq).2.1,fun e2=>?_⟩,hbo.set 2 v',own_kept hown (grownBy_setCellX W2 X.heap.size 2 v') (Nat.lt_succ_self _),by rw [List.length_append,h.el]; rfl,fun e he=>?_,heq,hco⟩
 ·have h5:PoolIn (W1.alloc (.cells #[.string ⟨nm.toArray⟩,.bool dir,.int .u64 g1,.int .u64 g2] 111)) ra Q rc:=hin1.below ((Below.refl _ _).alloc (Nat.le_refl _) _)
  exact (h5.grown hg (fun ad e hq=>(hpa ad e hq).2.2)).grown (grownBy_setCellX _ _ _ _) (fun ad e hq e2=>(hpa ad e hq).2.1 (Option.some.inj e2).symm)
 ·rcases hat with ⟨h1,h2⟩ | h1
  ·rw [h1,h2]; exact h.pat
  ·exact .inr (fun ad e=>by have:=h1 ad e; omega)
 ·rcases hv' with h6 | h6
  ·exact (hpa ad e hq).2.2 (h6.symm.trans e2)
  ·rw [h6] at e2
   have:=its_lt hin1.its ad e hq
   have:=Option.some.inj e2
   simp at this
   omega
 ·rcases List.mem_append.1 he with he | he
  ·exact h.en e he
  ·simp at he; subst he; exact ⟨hn,hg1,hg2⟩
end
theorem store_any:∀ (n:Nat) (a:Option Addr) (xs:List Itm) (c:Nat) (la:Option Addr) (l:List Fl) (lc:Nat) (w:World),PoolIn w a xs c->Asc xs->Fls w.heap.size w la l->0 < n->OkF n l->SzF l->(∀ x ∈ l,x.path.length<=1000)->xs.length + l.length * n + 1<=100000000->
  Calls Tryz.prog 24 #[.slice a xs.length c,.slice la l.length lc] w fun e w'=>GotSt w a xs (storeF n xs l) e w'/\(storeF n xs l).1.length<=xs.length + l.length * n + 1:=by
 intro n
 induction n with
 | zero=>intro a xs c la l lc w _ _ _ h; omega
 | succ n ih=>
  intro a xs c la l lc w hp ha hl _ hok hsz hpl hlen
  have HIH:=hid ih
  have HP:=hid hp
  have HA:=hid ha
  have HL:=hid hl
  have HOK:=hid hok
  have HSZ:=hid hsz
  have HPL:=hid hpl
  have HLEN:=hid hlen
  have hll:=hsz.len
  clear ih hp ha hl hok hsz hpl hlen
  obtain ⟨nl,hnl⟩:∃ k,k=l.length:=⟨_,rfl⟩
  have HNL:=hid hnl
  rw [<-hnl] at hll ⊢
  clear hnl
  have hmm:=@run_makeMap Tryz.prog
  obtain ⟨u0,hu0⟩:∃ u0,u0=w.alloc (.cells #[.int .u64 0,.int .u64 0] 35):=⟨_,rfl⟩
  have hz0:u0.heap.size=w.heap.size + 1:=by rw [hu0]; simp
  have HB0:Hid (Bel (w.heap.size + 1 + 2) (w.heap.size + 1) (w.heap.size + 1 + 1) 0 0 [] (fun _=>.slice none 0 0) ((u0.alloc (.map #[] 0)).alloc (.map #[] 0))):=hid (by have h:=Bel.start u0; rw [hz0] at h; exact h)
  have HU0:Hid (Below (w.heap.size + 1) u0 ((u0.alloc (.map #[] 0)).alloc (.map #[] 0))):=hid (((Below.refl _ _).alloc (by omega) _).alloc (by simp; omega) _)
  have HW0:Hid (Below w.heap.size w u0):=hid (by rw [hu0]; exact (Below.refl _ _).alloc (Nat.le_refl _) _)
  have HR0:Hid (BK w.heap.size #[.int .u64 0,.int .u64 0] 35 u0):=hid (by rw [hu0]; exact BK.new _ _ _)
  rw [hu0] at HB0 HU0
  have HUE:=hid hu0
  clear hu0
  obtain ⟨rA,hrA⟩:∃ r,r=xs.length:=⟨_,rfl⟩
  rw [<-hrA]
  have HRA:=hid hrA
  clear hrA
  go_enter Tryz.func24,Tryz.ntmps24
  go_wp2_with fail
  go_loopw [26] (fun i wr=>∃ k:Nat,k<=nl/\i = .int .i64 (k:Int)/\Hid (∃ R nb nf,nb<=k/\nf<=k/\Bel (w.heap.size + 1 + 2) (w.heap.size + 1) (w.heap.size + 1 + 1) nb nf (l.take k) R wr)/\Hid (Below (w.heap.size + 1) u0 wr)) (fun i _=>nl - (intOf i).toNat)
  case atStart=>exact ⟨0,by omega,rfl,hid ⟨_,0,0,Nat.le_refl _,Nat.le_refl _,by rw [List.take_zero]; exact HB0.out⟩,hid (by rw [HUE.out]; exact HU0.out)⟩
  case round=>
   clear HB0 HU0
   obtain ⟨k,hk,rfl,HB,HU⟩:=hrel
   have hws:=HU.out.size
   have HWR:Hid (Below w.heap.size w wr):=hid (HW0.out.trans (HU.out.mono (by omega)))
   by_cases hlt:k < nl
   ·have hki:(k:Int) < (nl:Int):=by omega
    have hkl:k < l.length:=by rw [<-HNL.out]; exact hlt
    obtain ⟨b0,of0,haa,hbb,q0,q1⟩:=fl_cells (HL.out.below HWR.out (Nat.le_refl _)) hkl
    have HTK:Hid (l.take (k + 1)=l.take k ++ [l[k]]):=hid (List.take_succ_eq_append_getElem hkl)
    have hpb:=HPL.out _ (List.getElem_mem hkl)
    generalize l[k]=x at q0 q1 HTK hpb
    obtain ⟨P,D⟩:=x
    simp only at q0 q1 hpb
    subst haa
    obtain ⟨R,nb,nf,hnb,hnf,hbel⟩:=HB.out
    obtain ⟨u1,hu1⟩:∃ u1,u1=wr.alloc (.cells #[.string ⟨P.toArray⟩,.string ⟨D.toArray⟩] 55):=⟨_,rfl⟩
    have HW1:Hid (Below wr.heap.size wr u1):=hid (by rw [hu1]; exact (Below.refl _ _).alloc (Nat.le_refl _) _)
    have HBX:Hid (BK wr.heap.size #[.string ⟨P.toArray⟩,.string ⟨D.toArray⟩] 55 u1):=hid (by rw [hu1]; exact BK.new _ _ _)
    have HBE:=hid (hbel.below HW1.out)
    have HCU:=hid (cut_any P (by omega) u1)
    obtain ⟨e0,e1⟩:=HBX.out.c2
    rw [hu1] at HCU e0 e1
    have HU1:=hid hu1
    have hne:R=R:=rfl
    clear hu1 hbel HB
    go_wp2_with fail
    (with_reducible refine HCU.out.mono ?_)
    rintro e u2 ⟨rfl,hb2⟩
    rw [<-HU1.out] at hb2
    have HBX2:=hid (HBX.out.below hb2)
    have hbe2:=HBE.out.below hb2
    have HU2:Hid (Below (w.heap.size + 1) u0 u2):=hid (HU.out.trans ((HW1.out.trans (hb2.mono HW1.out.size)).mono (by have:=HU.out.size; omega)))
    obtain ⟨f0,f1⟩:=HBX2.out.c2
    have hfl:(firstS ⟨P,D⟩).length<=1000000:=by
     show (cutS P).1.length<=1000000
     rcases cutS_law P with ⟨_,h2,_⟩ | ⟨_,h2,_⟩
     ·have:=congrArg List.length h2; simp only [List.length_append,List.length_cons] at this; omega
     ·rw [<-h2]; omega
    have hpre:(((l.take k).length:Nat):Int)<=1000000:=by rw [List.length_take]; omega
    clear e0 e1 HCU hb2
    cases hd:(cutS P).2.2 with
    | true=>
     obtain ⟨v',W2,W3,hrun,hput,hbel3,hb3⟩:=hbe2.deep (x:=⟨P,D⟩) hd hfl (by omega) hpre
     have hlook:=hbe2.look hfl
     have HREL:Hid (∃ R nb nf,nb<=k + 1/\nf<=k + 1/\Bel (w.heap.size + 1 + 2) (w.heap.size + 1) (w.heap.size + 1 + 1) nb nf (l.take (k + 1)) R W3):=hid ⟨_,nb + 1,nf,by omega,by omega,by rw [HTK.out]; exact hbel3⟩
     have HBW:Hid (Below (w.heap.size + 1) u0 W3):=hid (HU2.out.trans hb3)
     have HRUN:=hid hrun
     simp only [firstS] at hlook hput HRUN
     generalize (cutS P).1=nm at hlook hput HRUN
     generalize (cutS P).2.1=rest at HRUN
     clear hrun hbel3 hb3 hbe2 hfl
     generalize R nm=v at hlook HRUN
     go_wp2_with (at_builtin; refine Lib.wpList_append_run _ rfl _ _ _ _ rfl _ _ rfl rfl _ _ HRUN.out ?_)
     go_roundw
     case rel=>exact ⟨k + 1,by omega,by go_num,HREL,HBW⟩
     case measure=>simp [intOf] <;> omega
    | false=>
     obtain ⟨W3,hput,hbel3,hg3⟩:=hbe2.flat (x:=⟨P,D⟩) hd hfl (by omega)
     have HREL:Hid (∃ R nb nf,nb<=k + 1/\nf<=k + 1/\Bel (w.heap.size + 1 + 2) (w.heap.size + 1) (w.heap.size + 1 + 1) nb nf (l.take (k + 1)) R W3):=hid ⟨_,nb,nf + 1,by omega,by omega,by rw [HTK.out]; exact hbel3⟩
     have HBW:Hid (Below (w.heap.size + 1) u0 W3):=hid (HU2.out.grown hg3 (by have:=HU2.out.size; omega) (fun j e=>by cases e; omega))
     simp only [firstS,flV] at hput
     generalize (cutS P).1=nm at hput
     generalize (cutS P).2.1=rest
     clear hbel3 hbe2 hfl hg3
     go_wp2_with fail
     go_roundw
     case rel=>exact ⟨k + 1,by omega,by go_num,HREL,HBW⟩
     case measure=>simp [intOf] <;> omega
   ·have hki:¬ (k:Int) < (nl:Int):=by omega
    obtain rfl:nl=k:=by omega
    obtain ⟨R,nb,nf,hnb,hnf,hbel0⟩:=HB.out
    rw [List.take_of_length_le (by have:=HNL.out; omega)] at hbel0
    have HBL:=hid hbel0
    have HKF:=hid (keysF_any hbel0.mF)
    have HRW:Hid (BK w.heap.size #[.int .u64 0,.int .u64 0] 35 wr):=hid ((HU.out.block w.heap.size (by omega)).trans HR0.out)
    clear hbel0 HB
    go_wp2_with fail
    (with_reducible refine HKF.out.mono ?_)
    rintro e u1 ⟨rfl,hu1⟩
    have hb1:Below wr.heap.size wr u1:=by rw [hu1]; exact (Below.refl _ _).alloc (Nat.le_refl _) _
    have hz1:u1.heap.size=wr.heap.size + 1:=by rw [hu1]; simp
    have hc1:u1.cell? ⟨wr.heap.size,0,none⟩=some (.map (some (w.heap.size + 1 + 1))):=by rw [hu1]; exact (BK.new _ _ _).c1
    have HBL1:=hid (HBL.out.below hb1)
    obtain ⟨Sp,hseq⟩:=keysF_stops HBL1.out.mF (by omega) hc1
    have HCO:=hid (collect_any (base:=u1.heap.size) u1 (enters_of Tryz.func82 (by kernel_rfl) rfl) hseq (Nat.le_refl _) (by omega))
    clear hu1 hc1 hseq HKF
    go_wp2_with fail
    (with_reducible refine HCO.out.mono ?_)
    rintro e u2 ⟨v,sf,rfl,hkf,hrow,hb2⟩
    obtain ⟨sa,sc,rfl,_⟩:=ownsRow_sliceN hrow
    have HKF2:=hid hkf
    have HBL2:=hid (HBL1.out.below hb2)
    have HKB:=hid (keysB_any HBL2.out.mB)
    have HROW:=hid hrow
    clear hkf hrow HCO
    obtain ⟨nsf,hnsf⟩:∃ m,m=sf.length:=⟨_,rfl⟩
    rw [<-hnsf]
    have HNSF:=hid hnsf
    clear hnsf
    go_wp2_with fail
    (with_reducible refine HKB.out.mono ?_)
    rintro e u3 ⟨rfl,hu3⟩
    have hb3:Below u2.heap.size u2 u3:=by rw [hu3]; exact (Below.refl _ _).alloc (Nat.le_refl _) _
    have hz3:u3.heap.size=u2.heap.size + 1:=by rw [hu3]; simp
    have hc3:u3.cell? ⟨u2.heap.size,0,none⟩=some (.map (some (w.heap.size + 1))):=by rw [hu3]; exact (BK.new _ _ _).c1
    obtain ⟨Sp2,hseq2⟩:=keysB_stops (HBL2.out.below hb3).mB (by omega) hc3
    have hsn:sf.length<=l.length:=by
     have h1:sf.Perm ((namesS l).filter fun x=>(filesM l x).isSome):=(List.perm_ext_iff_of_nodup HKF2.out.1 ((names_nodup l).filter _)).2 (fun x=>by
      rw [HKF2.out.2 x,Option.isSome_map,List.mem_filter]
      refine ⟨fun h2=>⟨?_,h2⟩,fun h2=>h2.2⟩
      obtain ⟨y,hy⟩:=Option.isSome_iff_exists.1 h2
      obtain ⟨y1,_,y3⟩:=files_some hy
      exact names_mem.2 ⟨y,y1,y3⟩)
     rw [h1.length_eq]
     exact Nat.le_trans (List.length_filter_le _ _) (names_len l)
    have HAS:=hid (appSeq_any (base:=u1.heap.size) (xs:=sf) u3 (enters_of Tryz.func83 (by kernel_rfl) rfl) hseq2 (own_below HROW.out hb3) (by have:=hb2.size; omega) (by have:=HNL.out; omega))
    rw [<-HNSF.out] at HAS
    clear hu3 hc3 hseq2 HKB
    go_wp2_with fail
    (with_reducible refine HAS.out.mono ?_)
    rintro e u4 ⟨v4,sb,rfl,hkb,hrow4,hb4⟩
    obtain ⟨s4,c4,rfl,_⟩:=ownsRow_sliceN hrow4
    have HPM:Hid ((sf ++ sb).Perm (namesS l)):=hid (names_perm HOK.out HKF2.out.1 (fun x=>by rw [HKF2.out.2 x,Option.isSome_map]) hkb.1 (fun x=>by rw [hkb.2 x]; by_cases e:insideS l x=[] <;> simp [e]))
    obtain ⟨NN,hNN⟩:∃ m,m=(sf ++ sb).length:=⟨_,rfl⟩
    have hNN2:NN=(namesS l).length:=by rw [hNN]; exact HPM.out.length_eq
    have hNN3:NN<=nl:=by have:=names_len l; have:=HNL.out; omega
    have HSO:=hid (sortStr_any s4 c4 (sf ++ sb) (namesS l) u4 hrow4 HPM.out (names_asc l) (by omega))
    rw [<-hNN] at HSO ⊢
    have HB14:Hid (Below u1.heap.size u1 u4):=hid ((hb2.trans (hb3.mono hb2.size)).trans hb4)
    have HNN:=hid hNN2
    have hlo4:∀ j,(Value.slice s4 (sf ++ sb).length c4).ownBlock=some j->u1.heap.size<=j:=fun j hj=>(hrow4.lt j hj).1
    rw [<-hNN] at hlo4
    have HLO:=hid hlo4
    clear hNN hNN2 hrow4 hkb HAS hb2 hb3 hb4 HPM HKF2 HBL2 hlo4 HROW
    go_wp2_with fail
    (with_reducible refine HSO.out.mono ?_)
    rintro e u5 ⟨rfl,hrow5,hg5⟩
    have HB15:Hid (Below u1.heap.size u1 u5):=hid (HB14.out.grown hg5 HB14.out.size (fun j e=>HLO.out j e))
    have HBL5:=hid (HBL1.out.below HB15.out)
    have HW5:Hid (Below w.heap.size w u5):=hid ((HWR.out.trans (hb1.mono (by omega))).trans (HB15.out.mono (by omega)))
    have HR5:Hid (BK w.heap.size #[.int .u64 0,.int .u64 0] 35 u5):=hid ((HRW.out.below hb1).below HB15.out)
    have hz5:w.heap.size + 1 + 2 < u5.heap.size:=by have:=HBL5.out.bb; have:=HB15.out.size; have:=HBL.out.bb; omega
    rw [<-HNN.out] at hrow5
    have HROW5:Hid (u5.ownsRow u1.heap.size 9 1 (.slice s4 (namesS l).length c4) (namesS l).length ((namesS l).map encStr)):=hid (by rw [<-HNN.out]; exact hrow5)
    have HS0:Hid (St2 w u5 n a xs l 0 xs a c [] (.slice none 0 0) (u5.alloc (.cells (obC (.slice none 0 0)) 100))):=hid ⟨(Below.refl _ _).alloc (Nat.le_refl _) _,by simp,HP.out.below (HW5.out.alloc HW5.out.size _),HA.out,.inl ⟨rfl,rfl⟩,fun ad e hq=>⟨by have:=its_lt HP.out.its ad e hq; omega,fun e2=>by cases e2⟩,BK.new _ _ _,World.ownsRow_nil _ _ _ _,rfl,fun e he=>by simp at he,by rw [List.drop_zero,storeF],by rw [List.drop_zero,cost_names]; omega⟩
    unfold obC at HS0
    clear hrow5 hg5 HSO HB14 HLO HBL HBL1 HRW hb1 HB15 HWR HU hnb hnf
    go_wp2_with fail
    go_loopw [0,65] (fun p i wr=>∃ (k:Nat) (P:List Itm) (pa:Option Addr) (pc:Nat) (es:List Ent) (v:Value) (np:Nat),i = .int .i64 (k:Int)/\k<=NN/\p = .slice pa np pc/\np=P.length/\Hid (St2 w u5 n a xs l k P pa pc es v wr)) (fun _ i _=>NN - (intOf i).toNat)
    case atStart=>exact ⟨0,xs,a,c,[],.slice none 0 0,rA,rfl,by omega,rfl,HRA.out,HS0⟩
    case round=>
     clear HS0
     obtain ⟨k,P,pa,pc,es,v,np,rfl,hk,rfl,hnp,HS⟩:=hrel
     have HNP:=hid hnp
     clear hnp
     have hXs:=HS.out.sz
     by_cases hlt:k < NN
     ·have hki:(k:Int) < (NN:Int):=by omega
      have hkn:k < (namesS l).length:=by rw [<-HNN.out]; exact hlt
      obtain ⟨g,off,hsa,q0⟩:=name_cell (own_below HROW5.out HS.out.be) hkn
      have HEQ0:=hid HS.out.eq
      have HCD:=hid (cost_drop (n:=n + 1) (l:=l) hkn)
      have HDR:Hid ((namesS l).drop k=(namesS l)[k] :: (namesS l).drop (k + 1)):=hid (List.drop_eq_getElem_cons hkn)
      have hmem:=List.getElem_mem hkn
      have HS47:=hid (name_slash hmem)
      have HCP:=hid (cnt_pos hmem)
      have hnb:nameB (namesS l)[k]=true:=by
       obtain ⟨y,hy,hye⟩:=names_mem.1 hmem
       rw [<-hye]; exact HOK.out.name hy
      have HMEM:=hid hmem
      have hnml:=(nameB_length hnb).2
      generalize (namesS l)[k]=nm at q0 HCD HDR HS47 HCP hnml HMEM
      subst hsa
      have HNM:Hid ((47:UInt8) ∉ nm/\nm.length<=1000):=hid ⟨HS47.out,by omega⟩
      clear hmem hnb HS47
      obtain ⟨ua,hua⟩:∃ ua,ua=wr.alloc (.cells #[.string ⟨nm.toArray⟩,.bool false,.int .u64 0,.int .u64 0] 111):=⟨_,rfl⟩
      have HBA:Hid (Below wr.heap.size wr ua):=hid (by rw [hua]; exact (Below.refl _ _).alloc (Nat.le_refl _) _)
      have hza:ua.heap.size=wr.heap.size + 1:=by rw [hua]; simp
      have HEA:Hid (BK wr.heap.size #[.string ⟨nm.toArray⟩,.bool false,.int .u64 0,.int .u64 0] 111 ua):=hid (by rw [hua]; exact BK.new _ _ _)
      have hlook:=((HBL5.out.below HS.out.be).below HBA.out).lookF (s:=nm) (by omega)
      rw [files_find HOK.out.asc HNM.out.1] at hlook
      have HCO1:Hid (P.length + (cntF l nm * (n + 1) + costF (n + 1) l ((namesS l).drop (k + 1)))<=xs.length + l.length * (n + 1)):=hid (by rw [<-HCD.out]; exact HS.out.co)
      have HB100:Hid (xs.length + l.length * (n + 1) + 1<=100000000):=hid (by exact HLEN.out)
      cases hf:findF l nm with
      | some D=>
       rw [hf] at hlook
       simp only [Option.map_some,Option.getD_some,Option.isSome_some,flV] at hlook
       have hDl:=HSZ.out.dat _ (findF_some hf)
       simp only at hDl
       have HEQ:Hid (storeF (n + 1) xs l=if (putS P (blobO D)).2.2 ≠ 0 then badR (putS P (blobO D)).2.2 else storeGo (storeF n) l ((namesS l).drop (k + 1)) (putS P (blobO D)).1 (es ++ [⟨nm,false,(putS P (blobO D)).2.1⟩])):=hid (by rw [HEQ0.out,HDR.out,storeGo,hf])
       obtain ⟨ub,hub⟩:∃ ub,ub=ua.alloc (.cells #[.string ⟨nm.toArray⟩,.string ⟨D.toArray⟩] 55):=⟨_,rfl⟩
       have HBB:Hid (Below wr.heap.size wr ub):=hid (by rw [hub]; exact HBA.out.alloc (by omega) _)
       have hzb:ub.heap.size=wr.heap.size + 2:=by rw [hub]; simp; omega
       have HEB:Hid (BK wr.heap.size #[.string ⟨nm.toArray⟩,.bool false,.int .u64 0,.int .u64 0] 111 ub):=hid (by rw [hub]; exact HEA.out.alloc _)
       obtain ⟨e0,e1⟩:=(BK.new ua #[.string ⟨nm.toArray⟩,.string ⟨D.toArray⟩] 55).c2
       have HBLO:=hid (blob_any D ub)
       rw [hub] at HBLO
       rw [hua] at hlook e0 e1 HBLO
       have HUA:=hid hua
       have HUB:=hid hub
       clear hua hub hf HEQ0 HDR HCD
       go_wp2_with fail
       (with_reducible refine HBLO.out.mono ?_)
       rintro e uc ⟨rfl,hbc⟩
       rw [<-HUA.out,<-HUB.out] at hbc
       have HBC:Hid (Below wr.heap.size wr uc):=hid (HBB.out.trans (hbc.mono HBB.out.size))
       have hzc:=hbc.size
       have HEC:=hid (HEB.out.below hbc)
       have HPC:=hid (HS.out.pin.below HBC.out)
       have HPUT:=hid (put_any pa P pc (blobO D) none 0 none 0 uc HPC.out HS.out.asc (obIn_blob uc hDl))
       rw [<-HNP.out] at HPUT
       generalize hrr:putS P (blobO D)=rr at HPUT HEQ
       have HRR:=hid hrr
       simp only [blobO,Ob.val,List.length_nil] at HPUT ⊢
       clear hrr hbc HBLO HEB HBB HUA HUB hlook e0 e1
       go_wp2_with fail
       (with_reducible refine HPUT.out.mono ?_)
       rintro e u9 ⟨ra,rc,rfl,hpat⟩
       have hPl:(P.length:Int) + 1<=100000000:=by have h1:=HCO1.out; have h2:=HB100.out; have h3:=HCP.out; have h4:1<=cntF l nm * (n + 1):=Nat.mul_pos h3 (by omega); omega
       have hpp:=put_inn (o:=blobO D) HS.out.asc HPC.out hPl (by rw [HRR.out]; exact hpat)
       rw [HRR.out] at hpp
       have HB9:Hid (Below wr.heap.size wr u9):=hid (HBC.out.trans (hpat.2.2.2.mono HBC.out.size))
       have HE9:=hid (HEC.out.below hpat.2.2.2)
       have HAT:Hid ((ra=pa/\rr.1=P)\/∀ ad,ra=some ad->uc.heap.size<=ad.block):=hid hpat.2.2.1
       have HCO:Hid (rr.1.length + costF (n + 1) l ((namesS l).drop (k + 1))<=xs.length + l.length * (n + 1)):=hid (by have h1:=HCO1.out; have h3:=HCP.out; have h4:1<=cntF l nm * (n + 1):=Nat.mul_pos h3 (by omega); have h5:=hpp.2.2; omega)
       have HDGE0:Hid (rr.2.2=0->0<=rr.2.1.1/\0<=rr.2.1.2):=hid (fun h0=>by
        obtain ⟨_,h1,_⟩:=put_ok (q:=rr.1) (d:=rr.2.1) HS.out.asc (o:=blobO D) (by rw [HRR.out]; exact Prod.ext rfl (Prod.ext rfl h0))
        rw [h1]
        obtain ⟨⟨h2,_⟩,h3,_⟩:=digS_ok (encodeS (blobO D)).1
        exact ⟨h2,h3⟩)
       have HPQ:Hid (PoolIn u9 ra rr.1 rc/\Asc rr.1):=hid ⟨hpp.1,hpp.2.1⟩
       obtain ⟨nq,hnq⟩:∃ nq,nq=rr.1.length:=⟨_,rfl⟩
       rw [<-hnq]
       have HNQ0:=hid hnq
       have HR0:Hid (rr=(rr.1,rr.2.1,rr.2.2)):=hid rfl
       clear hpp hpat hnq HPUT HEC HPC HRR hPl
       obtain ⟨Q,⟨g1,g2⟩,er⟩:=rr
       simp only at HB9 HE9 HAT HCO HDGE0 HPQ HNQ0 HEQ ⊢
       have HNQ:Hid (nq=Q.length):=HNQ0
       have HDGE:Hid (er=0->0<=g1/\0<=g2):=HDGE0
       clear HNQ0 HDGE0
       have hes:BK wr.heap.size #[.string ⟨nm.toArray⟩,.bool false,.int .u64 0,.int .u64 0] 111 u9:=HE9.out
       obtain ⟨k0,k1,k2,k3⟩:=hes.c4
       obtain ⟨z0,z1,z2,z3⟩:=hes.f4
       obtain ⟨y1,hy1⟩:∃ y1,y1=u9.setCell ⟨wr.heap.size,2,none⟩ (.int .u64 g1):=⟨_,rfl⟩
       obtain ⟨y2,hy2⟩:∃ y2,y2=y1.setCell ⟨wr.heap.size,3,none⟩ (.int .u64 g2):=⟨_,rfl⟩
       have HEY:Hid (BK wr.heap.size #[.string ⟨nm.toArray⟩,.bool false,.int .u64 g1,.int .u64 0] 111 y1):=hid (by rw [hy1]; exact hes.set 2 _)
       obtain ⟨m0,m1,m2,m3⟩:=HEY.out.c4
       obtain ⟨n0,n1,n2,n3⟩:=HEY.out.f4
       have HY1:=hid hy1
       have HY2:=hid hy2
       rw [hy1] at m0 m1 m2 m3 n0 n1 n2 n3
       by_cases her:er=0
       ·have HEQ2:Hid (storeF (n + 1) xs l=storeGo (storeF n) l ((namesS l).drop (k + 1)) Q (es ++ [⟨nm,false,(g1,g2)⟩])):=hid (by rw [HEQ.out]; simp [her])
        have HDG:Hid (0<=g1/\0<=g2):=hid (HDGE.out her)
        obtain ⟨v',W2,hrun,hbe,hbo1,hbo2,hst⟩:=HS.out.step HB9.out HE9.out (W0:=uc) (by omega) HPQ.out.1 HPQ.out.2 HAT.out HNM.out.2 HDG.out.1 HDG.out.2 (by omega) HEQ2.out HCO.out
        obtain ⟨va2,vc2,rfl,_⟩:=ownsRow_sliceN hst.ow
        have hle:(es ++ [(⟨nm,false,(g1,g2)⟩:Ent)]).length=es.length + 1:=by simp
        rw [hle] at hst hrun
        rw [<-HY1.out,<-HY2.out] at hrun hbe hbo1
        have hys:y2.heap.size=u9.heap.size:=by rw [HY2.out,HY1.out]; simp [World.setCell]
        rw [hys] at hrun
        obtain ⟨j0,j1,j2,j3⟩:=hbe.c4
        unfold obC at hbo1 hbo2
        obtain ⟨o0,o1,o2,o3,o4,o5,o6,o7,o8⟩:=hbo1.c9
        obtain ⟨p0,p1,p2,p3,p4,p5,p6,p7,p8⟩:=hbo2.c9
        have pf:=hbo2.frozen 2
        rw [HY2.out,HY1.out] at hrun j0 j1 j2 j3 o0 o1 o2 o3 o4 o5 o6 o7 o8
        have HRUN:=hid hrun.out
        have HST:=hid hst
        subst her
        clear hys hrun hbe hbo1 hbo2 hst hes hy1 hy2 HEY HY1 HY2
        go_wp2_with (at_builtin; refine Lib.wpList_append_run _ rfl _ _ _ _ rfl _ _ rfl rfl _ _ HRUN.out ?_)
        go_roundw
        case rel=>exact ⟨k + 1,Q,ra,rc,_,_,nq,by go_num,by omega,rfl,HNQ.out,HST⟩
        case measure=>simp [intOf] <;> omega
       ·have HEQ2:Hid (storeF (n + 1) xs l=badR er):=hid (by rw [HEQ.out]; simp [her])
        have hy3:Below w.heap.size w y2:=by rw [hy2,hy1]; exact (((HW5.out.trans (HS.out.be.mono (by omega))).trans (HB9.out.mono (by omega))).setCell (by simp; omega) _).setCell (by simp; omega) _
        have hrc:BK w.heap.size #[.int .u64 0,.int .u64 0] 35 y2:=by rw [hy2,hy1]; exact (((HR5.out.below HS.out.be).below HB9.out).other (by omega) _ _).other (by omega) _ _
        obtain ⟨t0,t1⟩:=hrc.c2
        obtain ⟨s0,s1⟩:=hrc.f2
        obtain ⟨y3,hy3e⟩:∃ y3,y3=y2.setCell ⟨w.heap.size,0,none⟩ (.int .u64 0):=⟨_,rfl⟩
        have hrc2:BK w.heap.size #[.int .u64 0,.int .u64 0] 35 y3:=by rw [hy3e]; exact hrc.set 0 _
        obtain ⟨t2,t3⟩:=hrc2.c2
        obtain ⟨s2,s3⟩:=hrc2.f2
        have hrc3:BK w.heap.size #[.int .u64 0,.int .u64 0] 35 (y3.setCell ⟨w.heap.size,1,none⟩ (.int .u64 0)):=hrc2.set 1 _
        obtain ⟨t4,t5⟩:=hrc3.c2
        have HFN:Hid (GotSt w a xs (storeF (n + 1) xs l) (.returned (.tuple #[.slice none 0 0,.agg #[.int .u64 0,.int .u64 0],.int .i64 er])) (y3.setCell ⟨w.heap.size,1,none⟩ (.int .u64 0))/\(storeF (n + 1) xs l).1.length<=rA + nl * (n + 1) + 1):=hid (by
         rw [HEQ2.out]
         have hb:Below w.heap.size w (y3.setCell ⟨w.heap.size,1,none⟩ (.int .u64 0)):=by rw [hy3e]; exact (hy3.setCell (Nat.le_refl _) _).setCell (Nat.le_refl _) _
         exact ⟨⟨none,0,rfl,PoolAt.none a xs hb,⟨Its.nil _ _ _,Nat.zero_le _,by simp [badR],by simp [badR]⟩,asc_nil⟩,Nat.zero_le _⟩)
        rw [hy3e,hy2,hy1] at t2 t3 s2 s3 t4 t5 HFN
        rw [hy2,hy1] at t0 t1 s0 s1
        clear hes hy1 hy2 hy3 hy3e HEY HY1 HY2 hrc hrc2 hrc3 HS HPQ HAT
        go_wp2_with fail
        refine bodyPost_ret (v:=.tuple #[.slice none 0 0,.agg #[.int .u64 0,.int .u64 0],.int .i64 er]) (by simp [results,Tryz.results24,go_sem,t4,t5]) rfl ?_
        exact HFN.out
      | none=>
       rw [hf] at hlook
       simp only [Option.map_none,Option.getD_none,Option.isSome_none,flV] at hlook
       have HEQ:Hid (storeF (n + 1) xs l=if (storeF n P (insideS l nm)).2.2 ≠ 0 then badR (storeF n P (insideS l nm)).2.2 else storeGo (storeF n) l ((namesS l).drop (k + 1)) (storeF n P (insideS l nm)).1 (es ++ [⟨nm,true,(storeF n P (insideS l nm)).2.1⟩])):=hid (by rw [HEQ0.out,HDR.out,storeGo,hf])
       obtain ⟨ub,hub⟩:∃ ub,ub=ua.alloc (.cells #[.string ⟨#[]⟩,.string ⟨#[]⟩] 55):=⟨_,rfl⟩
       have HBB:Hid (Below wr.heap.size wr ub):=hid (by rw [hub]; exact HBA.out.alloc (by omega) _)
       have hzb:ub.heap.size=wr.heap.size + 2:=by rw [hub]; simp; omega
       have HEB:Hid (BK wr.heap.size #[.string ⟨nm.toArray⟩,.bool false,.int .u64 0,.int .u64 0] 111 ub):=hid (by rw [hub]; exact HEA.out.alloc _)
       obtain ⟨e0,e1,e2,e3⟩:=HEB.out.c4
       obtain ⟨f0,f1,f2,f3⟩:=HEB.out.f4
       obtain ⟨uc,huc⟩:∃ uc,uc=(wr.alloc (.cells #[.string ⟨nm.toArray⟩,.bool true,.int .u64 0,.int .u64 0] 111)).alloc (.cells #[.string ⟨#[]⟩,.string ⟨#[]⟩] 55):=⟨_,rfl⟩
       have HEC:Hid (BK wr.heap.size #[.string ⟨nm.toArray⟩,.bool true,.int .u64 0,.int .u64 0] 111 uc):=hid (by rw [huc]; exact (BK.new _ _ _).alloc _)
       have HBC:Hid (Below wr.heap.size wr uc):=hid (by rw [huc]; exact ((Below.refl _ _).alloc (Nat.le_refl _) _).alloc (by simp) _)
       have hzc:uc.heap.size=wr.heap.size + 2:=by rw [huc]; simp
       have hbelc:=(HBL5.out.below HS.out.be).below HBC.out
       have hlook2:=hbelc.look (s:=nm) (by have:=HNM.out.2; omega)
       obtain ⟨fa,fc,hR,_⟩:=ownsRow_sliceN (hbelc.row nm)
       have hrow:=hbelc.row nm
       rw [hR] at hlook2 hrow
       have HPC:=hid (HS.out.pin.below HBC.out)
       obtain ⟨y0,hy0⟩:=List.exists_mem_of_ne_nil _ (deep_of HMEM.out hf)
       have hin:=HOK.out.inside nm
       have hcn:=inside_cnt l nm
       have hlen2:P.length + (insideS l nm).length * n + 1<=100000000/\(insideS l nm).length * n + 1<=cntF l nm * (n + 1):=by
        have h1:=HCO1.out
        have h2:=HB100.out
        have h3:=HCP.out
        have h4:(insideS l nm).length * n<=cntF l nm * n:=Nat.mul_le_mul_right _ hcn
        rw [Nat.mul_add,Nat.mul_one] at h1 ⊢
        rw [Nat.mul_add,Nat.mul_one] at h2
        rw [Nat.mul_add,Nat.mul_one] at h1
        omega
       have HST0:=hid (HIH.out pa P pc fa (insideS l nm) fc uc HPC.out HS.out.asc (own_fls rfl hrow) (hin.pos hy0) hin (HSZ.out.inside nm) (fun y hy=>by
        obtain ⟨x,hx,h1,h2,rfl⟩:=inside_mem.1 hy
        have h3:=HPL.out x hx
        have h4:=cutS_len (s:=x.path) h1
        show (cutS x.path).2.1.length<=1000
        omega) hlen2.1)
       rw [<-HNP.out] at HST0
       have HLN2:=hid hlen2.2
       have HDP:Hid (∀ (q:List Itm) (d:Int × Int),storeF n P (insideS l nm)=(q,d,0)->0<=d.1/\0<=d.2):=hid (fun q d h=>by
        obtain ⟨_,h1,_⟩:=store_pure n HS.out.asc h
        obtain ⟨o,h2⟩:=pureF_dig (hin.pos hy0) (insideS l nm)
        rw [h1,h2]
        obtain ⟨⟨h3,_⟩,h4,_⟩:=digS_ok (encodeS o).1
        exact ⟨h3,h4⟩)
       generalize hrr:storeF n P (insideS l nm)=rr at HST0 HEQ HDP
       generalize (insideS l nm).length=il at hlook2 HST0 HLN2
       rw [huc] at hlook2 HST0
       rw [hub] at e0 e1 e2 e3 f0 f1 f2 f3
       rw [hua] at hlook e0 e1 e2 e3 f0 f1 f2 f3
       have HUA:=hid hua
       have HUB:=hid hub
       have HUC:=hid huc
       clear hua hub huc hf HEQ0 HDR HCD hrow hR hbelc hin hy0 hlen2 hcn hrr
       go_wp2_with fail
       (with_reducible refine HST0.out.mono ?_)
       rintro e u9 ⟨⟨ra,rc,rfl,hpat,hpin,hasc⟩,hql⟩
       rw [<-HUC.out] at hpat
       have HB9:Hid (Below wr.heap.size wr u9):=hid (HBC.out.trans (hpat.2.2.2.mono HBC.out.size))
       have HE9:=hid (HEC.out.below hpat.2.2.2)
       have HAT:Hid ((ra=pa/\rr.1=P)\/∀ ad,ra=some ad->uc.heap.size<=ad.block):=hid hpat.2.2.1
       have HCO:Hid (rr.1.length + costF (n + 1) l ((namesS l).drop (k + 1))<=xs.length + l.length * (n + 1)):=hid (by have h1:=HCO1.out; have h3:=HLN2.out; have h4:=HNP.out; omega)
       have HDGE0:Hid (rr.2.2=0->0<=rr.2.1.1/\0<=rr.2.1.2):=hid (fun h0=>HDP.out rr.1 rr.2.1 (Prod.ext rfl (Prod.ext rfl h0)))
       have HPQ:Hid (PoolIn u9 ra rr.1 rc/\Asc rr.1):=hid ⟨hpin,hasc⟩
       obtain ⟨nq,hnq⟩:∃ nq,nq=rr.1.length:=⟨_,rfl⟩
       rw [<-hnq]
       have HNQ0:=hid hnq
       clear hpat hnq hpin hasc hql HST0 HDP HEB HBB HUA HUB HUC hlook hlook2 e0 e1 e2 e3 f0 f1 f2 f3 HEC HPC
       obtain ⟨Q,⟨g1,g2⟩,er⟩:=rr
       simp only at HB9 HE9 HAT HCO HDGE0 HPQ HNQ0 HEQ ⊢
       have HNQ:Hid (nq=Q.length):=HNQ0
       have HDGE:Hid (er=0->0<=g1/\0<=g2):=HDGE0
       clear HNQ0 HDGE0
       have hes:BK wr.heap.size #[.string ⟨nm.toArray⟩,.bool true,.int .u64 0,.int .u64 0] 111 u9:=HE9.out
       obtain ⟨k0,k1,k2,k3⟩:=hes.c4
       obtain ⟨z0,z1,z2,z3⟩:=hes.f4
       obtain ⟨y1,hy1⟩:∃ y1,y1=u9.setCell ⟨wr.heap.size,2,none⟩ (.int .u64 g1):=⟨_,rfl⟩
       obtain ⟨y2,hy2⟩:∃ y2,y2=y1.setCell ⟨wr.heap.size,3,none⟩ (.int .u64 g2):=⟨_,rfl⟩
       have HEY:Hid (BK wr.heap.size #[.string ⟨nm.toArray⟩,.bool true,.int .u64 g1,.int .u64 0] 111 y1):=hid (by rw [hy1]; exact hes.set 2 _)
       obtain ⟨m0,m1,m2,m3⟩:=HEY.out.c4
       obtain ⟨n0,n1,n2,n3⟩:=HEY.out.f4
       have HY1:=hid hy1
       have HY2:=hid hy2
       rw [hy1] at m0 m1 m2 m3 n0 n1 n2 n3
       by_cases her:er=0
       ·have HEQ2:Hid (storeF (n + 1) xs l=storeGo (storeF n) l ((namesS l).drop (k + 1)) Q (es ++ [⟨nm,true,(g1,g2)⟩])):=hid (by rw [HEQ.out]; simp [her])
        have HDG:Hid (0<=g1/\0<=g2):=hid (HDGE.out her)
        obtain ⟨v',W2,hrun,hbe,hbo1,hbo2,hst⟩:=HS.out.step HB9.out HE9.out (W0:=uc) (by omega) HPQ.out.1 HPQ.out.2 HAT.out HNM.out.2 HDG.out.1 HDG.out.2 (by omega) HEQ2.out HCO.out
        obtain ⟨va2,vc2,rfl,_⟩:=ownsRow_sliceN hst.ow
        have hle:(es ++ [(⟨nm,true,(g1,g2)⟩:Ent)]).length=es.length + 1:=by simp
        rw [hle] at hst hrun
        rw [<-HY1.out,<-HY2.out] at hrun hbe hbo1
        have hys:y2.heap.size=u9.heap.size:=by rw [HY2.out,HY1.out]; simp [World.setCell]
        rw [hys] at hrun
        obtain ⟨j0,j1,j2,j3⟩:=hbe.c4
        unfold obC at hbo1 hbo2
        obtain ⟨o0,o1,o2,o3,o4,o5,o6,o7,o8⟩:=hbo1.c9
        obtain ⟨p0,p1,p2,p3,p4,p5,p6,p7,p8⟩:=hbo2.c9
        have pf:=hbo2.frozen 2
        rw [HY2.out,HY1.out] at hrun j0 j1 j2 j3 o0 o1 o2 o3 o4 o5 o6 o7 o8
        have HRUN:=hid hrun.out
        have HST:=hid hst
        subst her
        clear hys hrun hbe hbo1 hbo2 hst hes hy1 hy2 HEY HY1 HY2
        go_wp2_with (at_builtin; refine Lib.wpList_append_run _ rfl _ _ _ _ rfl _ _ rfl rfl _ _ HRUN.out ?_)
        go_roundw
        case rel=>exact ⟨k + 1,Q,ra,rc,_,_,nq,by go_num,by omega,rfl,HNQ.out,HST⟩
        case measure=>simp [intOf] <;> omega
       ·have HEQ2:Hid (storeF (n + 1) xs l=badR er):=hid (by rw [HEQ.out]; simp [her])
        have hy3:Below w.heap.size w y2:=by rw [hy2,hy1]; exact (((HW5.out.trans (HS.out.be.mono (by omega))).trans (HB9.out.mono (by omega))).setCell (by simp; omega) _).setCell (by simp; omega) _
        have hrc:BK w.heap.size #[.int .u64 0,.int .u64 0] 35 y2:=by rw [hy2,hy1]; exact (((HR5.out.below HS.out.be).below HB9.out).other (by omega) _ _).other (by omega) _ _
        obtain ⟨t0,t1⟩:=hrc.c2
        obtain ⟨s0,s1⟩:=hrc.f2
        obtain ⟨y3,hy3e⟩:∃ y3,y3=y2.setCell ⟨w.heap.size,0,none⟩ (.int .u64 0):=⟨_,rfl⟩
        have hrc2:BK w.heap.size #[.int .u64 0,.int .u64 0] 35 y3:=by rw [hy3e]; exact hrc.set 0 _
        obtain ⟨t2,t3⟩:=hrc2.c2
        obtain ⟨s2,s3⟩:=hrc2.f2
        have hrc3:BK w.heap.size #[.int .u64 0,.int .u64 0] 35 (y3.setCell ⟨w.heap.size,1,none⟩ (.int .u64 0)):=hrc2.set 1 _
        obtain ⟨t4,t5⟩:=hrc3.c2
        have HFN:Hid (GotSt w a xs (storeF (n + 1) xs l) (.returned (.tuple #[.slice none 0 0,.agg #[.int .u64 0,.int .u64 0],.int .i64 er])) (y3.setCell ⟨w.heap.size,1,none⟩ (.int .u64 0))/\(storeF (n + 1) xs l).1.length<=rA + nl * (n + 1) + 1):=hid (by
         rw [HEQ2.out]
         have hb:Below w.heap.size w (y3.setCell ⟨w.heap.size,1,none⟩ (.int .u64 0)):=by rw [hy3e]; exact (hy3.setCell (Nat.le_refl _) _).setCell (Nat.le_refl _) _
         exact ⟨⟨none,0,rfl,PoolAt.none a xs hb,⟨Its.nil _ _ _,Nat.zero_le _,by simp [badR],by simp [badR]⟩,asc_nil⟩,Nat.zero_le _⟩)
        rw [hy3e,hy2,hy1] at t2 t3 s2 s3 t4 t5 HFN
        rw [hy2,hy1] at t0 t1 s0 s1
        clear hes hy1 hy2 hy3 hy3e HEY HY1 HY2 hrc hrc2 hrc3 HS HPQ HAT
        go_wp2_with fail
        refine bodyPost_ret (v:=.tuple #[.slice none 0 0,.agg #[.int .u64 0,.int .u64 0],.int .i64 er]) (by simp [results,Tryz.results24,go_sem,t4,t5]) rfl ?_
        exact HFN.out
     ·have hki:¬ (k:Int) < (NN:Int):=by omega
      have hdr:(namesS l).drop k=[]:=List.drop_of_length_le (by have:=HNN.out; omega)
      have HEQ:Hid (storeF (n + 1) xs l=putS P (treeO es)):=hid (by rw [HS.out.eq,hdr,storeGo])
      have hco:=HS.out.co
      rw [hdr] at hco
      have hel:es.length<=200:=by have:=HS.out.el; omega
      obtain ⟨ea,ec,rfl,_⟩:=ownsRow_sliceN HS.out.ow
      have HOB:Hid (ObIn wr (treeO es) ea ec none 0):=hid ⟨ownsRow_ents HS.out.ow,fun i h=>by simp [treeO] at h,by simp [treeO],by simp [treeO]; omega,fun e he=>by have:=(HS.out.en e he).1; omega,fun e he=>(HS.out.en e he).2,by simp [treeO],by simp [treeO],by simp [treeO],by simp [treeO],by simp [treeO],by simp [treeO]⟩
      have HPUT:=hid (put_any pa P pc (treeO es) ea ec none 0 wr HS.out.pin HS.out.asc HOB.out)
      rw [<-HNP.out] at HPUT
      generalize hrr:putS P (treeO es)=rr at HPUT HEQ
      have HRR:=hid hrr
      have hbo:=HS.out.bo
      unfold obC at hbo
      obtain ⟨r0,r1,r2,r3,r4,r5,r6,r7,r8⟩:=hbo.c9
      have hPl:(P.length:Int) + 1<=100000000:=by have h2:=HLEN.out; simp only [costF,List.map_nil,List.sum_nil] at hco; omega
      have HPL2:Hid (P.length<=xs.length + l.length * (n + 1)):=hid (by simp only [costF,List.map_nil,List.sum_nil] at hco; omega)
      simp only [treeO,Ob.val,List.length_nil] at HPUT
      clear hrr hbo hco hdr
      go_wp2_with fail
      (with_reducible refine HPUT.out.mono ?_)
      rintro e u9 ⟨ra,rc,rfl,hpat⟩
      have hpp:=put_inn (o:=treeO es) HS.out.asc HS.out.pin hPl (by rw [HRR.out]; exact hpat)
      rw [HRR.out] at hpp
      have hb9:=hpat.2.2.2
      have hbw:Below w.heap.size w u9:=(HW5.out.trans (HS.out.be.mono (by omega))).trans (hb9.mono (by omega))
      have hrc:BK w.heap.size #[.int .u64 0,.int .u64 0] 35 u9:=(HR5.out.below HS.out.be).below hb9
      have hrne:∀ ad,ra=some ad->0 < rr.1.length->ad.block ≠ w.heap.size:=by
       intro ad e hq
       rcases hpat.2.2.1 with ⟨h1,h2⟩ | h1
       ·rw [h1] at e
        rw [h2] at hq
        rcases HS.out.pat with ⟨h3,h4⟩ | h3
        ·rw [h3] at e; rw [h4] at hq; have:=its_lt HP.out.its ad e hq; omega
        ·have:=h3 ad e; omega
       ·have:=h1 ad e; omega
      have hal:(ra=a/\rr.1=xs)\/∀ ad,ra=some ad->w.heap.size<=ad.block:=by
       rcases hpat.2.2.1 with ⟨h1,h2⟩ | h1
       ·rcases HS.out.pat with ⟨h3,h4⟩ | h3
        ·exact .inl ⟨h1.trans h3,h2.trans h4⟩
        ·exact .inr (fun ad e=>by rw [h1] at e; have:=h3 ad e; omega)
       ·exact .inr (fun ad e=>by have:=h1 ad e; omega)
      obtain ⟨nq,hnq⟩:∃ nq,nq=rr.1.length:=⟨_,rfl⟩
      obtain ⟨Q,⟨g1,g2⟩,er⟩:=rr
      simp only at hpp hrne hal hnq hpat
      obtain ⟨y1,hy1⟩:∃ y1,y1=u9.setCell ⟨w.heap.size,0,none⟩ (.int .u64 g1):=⟨_,rfl⟩
      obtain ⟨y2,hy2⟩:∃ y2,y2=y1.setCell ⟨w.heap.size,1,none⟩ (.int .u64 g2):=⟨_,rfl⟩
      have hrc1:BK w.heap.size #[.int .u64 g1,.int .u64 0] 35 y1:=by rw [hy1]; exact hrc.set 0 _
      have hrc2:BK w.heap.size #[.int .u64 g1,.int .u64 g2] 35 y2:=by rw [hy2]; exact hrc1.set 1 _
      have hin:PoolIn y2 ra Q rc:=by rw [hy2,hy1]; exact (hpp.1.grown (grownBy_setCellX _ _ _ _) (fun ad e hq e2=>hrne ad e hq (Option.some.inj e2).symm)).grown (grownBy_setCellX _ _ _ _) (fun ad e hq e2=>hrne ad e hq (Option.some.inj e2).symm)
      have hby:Below w.heap.size w y2:=by rw [hy2,hy1]; exact (hbw.setCell (Nat.le_refl _) _).setCell (Nat.le_refl _) _
      have HFN:Hid (GotSt w a xs (storeF (n + 1) xs l) (.returned (.tuple #[.slice ra nq rc,.agg #[.int .u64 g1,.int .u64 g2],.int .i64 er])) y2/\(storeF (n + 1) xs l).1.length<=rA + nl * (n + 1) + 1):=hid (by
       rw [HEQ.out]
       refine ⟨⟨ra,rc,by rw [hnq],⟨hin.its,hin.cap,hal,hby⟩,hin,hpp.2.1⟩,?_⟩
       have h1:=hpp.2.2
       have h2:=HPL2.out
       rw [HRA.out,HNL.out]
       show Q.length<=_
       omega)
      rw [<-hnq]
      obtain ⟨t0,t1⟩:=hrc.c2
      obtain ⟨s0,s1⟩:=hrc.f2
      obtain ⟨t2,t3⟩:=hrc1.c2
      obtain ⟨s2,s3⟩:=hrc1.f2
      obtain ⟨t4,t5⟩:=hrc2.c2
      rw [hy1] at t2 t3 s2 s3
      have HY1:=hid hy1
      have HY2:=hid hy2
      clear hy1 hy2 hin hby hnq hal hrne hrc hrc1 hrc2 hbw hb9 hpp hpat HPUT HEQ HRR r0 r1 r2 r3 r4 r5 r6 r7 r8
      go_wp2_with fail
      rw [<-HY1.out,<-HY2.out]
      refine bodyPost_ret (v:=.tuple #[.slice ra nq rc,.agg #[.int .u64 g1,.int .u64 g2],.int .i64 er]) (by simp [results,Tryz.results24,go_sem,t4,t5]) rfl ?_
      exact HFN.out
end Go.Proofs.YtdedfkljaeloiaaGreatDoor
