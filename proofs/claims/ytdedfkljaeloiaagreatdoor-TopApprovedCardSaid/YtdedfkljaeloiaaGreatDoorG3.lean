/- Joined texts: TtMp, TtCk, TtCl, TtCu, TtFi. -/
import Derived.Test.YtdedfkljaeloiaaGreatDoorTtIp
import Derived.Maps.OwnSet
import Derived.Sort.KeysCollected
import Derived.Test.YtdedfkljaeloiaaGreatDoorG1
import Derived.Test.YtdedfkljaeloiaaGreatDoorK3
import Derived.BigQuiet
/- A map from texts to values of whatever kind,as a function. -/
set_option maxRecDepth 100000
set_option maxHeartbeats 16000000
open Go.Lib (hid)
namespace Go.Proofs.YtdedfkljaeloiaaGreatDoor
open Go.RowKit Go.Shelf
set_option linter.unusedVariables false
theorem lawS:Maps.Keyed Tryz.prog 9:=Maps.string_keyed Tryz.underlying9
theorem keyS_some {s:List UInt8} (h:s.length<=1000000):keyOf Tryz.prog 9 (.string ⟨s.toArray⟩)=some (.string s):=by
 have hl:=ba_len s
 simp [keyOf,Tryz.underlying9,mapKey]
 unfold maxLen; omega
def selfT (v:Value):Option (DataW Value × List MemPlace):=some (.held v,[])
def optT:Option Value->DataW Value->DataW Value
 | some v,_=>.held v
 | none,z=>z
def MapS (b n:Nat) (F:List UInt8->Option Value) (W:World):Prop:=
 ∃ D:DataW Value,W.ownsMap Tryz.prog 9 selfT b n D/\∀ s z,D.atKey (.string s) z=optT (F s) z
section
variable {b n:Nat} {F:List UInt8->Option Value} {W:World}
theorem MapS.made (W:World):MapS W.heap.size 0 (fun _=>none) (W.alloc (.map #[] 0)):=⟨.map [],World.ownsMap_made _ _ _ _,fun d z=>WideAt.atKey_none _ (fun p hp=>by simp at hp)⟩
theorem MapS.lt (h:MapS b n F W):b < W.heap.size:=by obtain ⟨D,h1,_⟩:=h; exact h1.lt
theorem MapS.kept {W':World} {row:Option Nat} (h:MapS b n F W) (hg:W.grownBy W' row) (hne:some b ≠ row):MapS b n F W':=by obtain ⟨D,h1,h2⟩:=h; exact ⟨D,h1.kept hg hne,h2⟩
theorem MapS.alloc (h:MapS b n F W) (o:Obj):MapS b n F (W.alloc o):=by obtain ⟨D,h1,h2⟩:=h; exact ⟨D,h1.alloc o,h2⟩
theorem MapS.below {W':World} (h:MapS b n F W) (hb:Below W.heap.size W W'):MapS b n F W':=h.kept (row:=none) ⟨hb.os,hb.tape,hb.output,hb.size,fun k hk _=>hb.block k hk⟩ (by simp)
theorem MapS.setCell (h:MapS b n F W) {a:Addr} (ha:b ≠ a.block) (u:Value):MapS b n F (W.setCell a u):=by obtain ⟨D,h1,h2⟩:=h; exact ⟨D,h1.setCell ha u,h2⟩
theorem MapS.eq {F':List UInt8->Option Value} (h:MapS b n F W) (e:∀ d,F d=F' d):MapS b n F' W:=by
 have:F=F':=funext e
 rw [<-this]; exact h
theorem MapS.mono {n':Nat} (h:MapS b n F W) (hn:n<=n'):MapS b n' F W:=by obtain ⟨D,h1,h2⟩:=h; exact ⟨D,h1.mono hn,h2⟩
theorem has_optT {D:DataW Value} {k:Lit} {o:Option Value} (h:∀ z,D.atKey k z=optT o z):Maps.has D k=o.isSome:=by
 cases o with
 | none=>exact Maps.has_false_of_atKey h
 | some v=>exact Maps.has_true_of_atKey h
theorem selfT_inv {v:Value} {y:DataW Value × List MemPlace} (h:selfT v=some y):y=(.held v,[]):=by unfold selfT at h; injection h with h; exact h.symm
theorem optT_held {o:Option Value} {z v:Value} {ps:List MemPlace} (h:selfT v=some (optT o (.held z),ps)):v=o.getD z:=by
 have:=selfT_inv h
 cases o <;> simp [optT] at this ⊢ <;> exact this.1.symm
theorem MapS.look {t e:TypeId} {z:Value} (h:MapS b n F W) (ht:Tryz.prog.underlying t=some (.map 9 e)) (hz:(zeroValue e).run Tryz.prog W = .ok z W) {s:List UInt8} (hd:s.length<=1000000):(Instr.lookup t (.map (some b)) (.string ⟨s.toArray⟩) false).run Tryz.prog W = .ok ((F s).getD z) W:=by
 obtain ⟨D,h1,h2⟩:=h
 obtain ⟨v,ps,hrun,hv⟩:=h1.lookup lawS ht hz (zd:=.held z) (zp:=[]) rfl (keyS_some hd)
 rw [h2 _] at hv
 rw [hrun,optT_held hv]
theorem MapS.lookOk {t e:TypeId} {z:Value} (h:MapS b n F W) (ht:Tryz.prog.underlying t=some (.map 9 e)) (hz:(zeroValue e).run Tryz.prog W = .ok z W) {s:List UInt8} (hd:s.length<=1000000):(Instr.lookup t (.map (some b)) (.string ⟨s.toArray⟩) true).run Tryz.prog W = .ok (.tuple #[(F s).getD z,.bool (F s).isSome]) W:=by
 obtain ⟨D,h1,h2⟩:=h
 obtain ⟨v,ps,hrun,hv⟩:=h1.look_ok lawS ht hz (zd:=.held z) (zp:=[]) rfl (keyS_some hd)
 rw [h2 _] at hv
 rw [hrun,optT_held hv,has_optT (h2 _)]
theorem MapS.put {t e:TypeId} (h:MapS b n F W) (ht:Tryz.prog.underlying t=some (.map 9 e)) {s:List UInt8} (hd:s.length<=1000000) (hn:(n:Int)<=1000000000) (v:Value) :
  ∃ W',(Instr.mapUpdate t (.map (some b)) (.string ⟨s.toArray⟩) v).run Tryz.prog W = .ok () W'/\MapS b (n + 1) (fun d=>if d=s then some v else F d) W'/\W.grownBy W' (some b)/\W'.heap.size=W.heap.size:=by
 obtain ⟨D,h1,h2⟩:=h
 obtain ⟨W',hrun,ho,ht'⟩:=h1.store lawS ht (by unfold maxLen; omega) (keyS_some hd) (d:=.held v) (ps:=[]) rfl
 refine ⟨W',hrun,⟨_,ho,fun d z=>?_⟩,ht'.grown,?_⟩
 ·by_cases e:d=s
  ·subst e
   rw [Maps.atKey_put_same h1.isMap (lawS.key (keyS_some hd))]
   simp [optT]
  ·rw [Maps.atKey_put_other (fun h=>e (by injection h)),h2 _]
   simp only [if_neg e]
 ·obtain ⟨es,clock,es',clock',hb,rfl⟩:=ht'
  simp [ChangeMaps.setBlock]
end
theorem strKeys_nodup {b n:Nat} {W:World} {D:DataW Value} (h:W.ownsMap Tryz.prog 9 selfT b n D):(strKeys D).Nodup:=by
 obtain ⟨es,hD,hpw,_⟩:=h.entries lawS
 obtain ⟨es',hD',hko⟩:=h.keysOf
 obtain rfl:es=es':=by rw [hD] at hD'; simpa using hD'
 subst hD
 show (es.map fun p=>strOf p.1).Nodup
 refine List.pairwise_map.2 (hpw.imp_of_mem fun {p q} hp' hq' hne e=>hne ?_)
 obtain ⟨v,hv⟩:=hko p hp'
 obtain ⟨u,hu⟩:=hko q hq'
 obtain ⟨a,_,ha,_⟩:=Maps.keyOf_str Tryz.underlying9 hv
 obtain ⟨b,_,hb,_⟩:=Maps.keyOf_str Tryz.underlying9 hu
 rw [ha,hb] at e ⊢
 exact congrArg _ e
def badFP:Option Pa->Pa->Bool
 | some q,p=>!Op.bytesLess q p
 | none,_=>false
def chkFGo (prev:Option Pa):List Fl->Int
 | []=>0
 | x :: r=>if pathB x.path=false then 6 else if badFP prev x.path=true then 10 else chkFGo (some x.path) r
def prevFP (l:List Fl):Nat->Option Pa
 | 0=>none
 | k + 1=>l[k]?.map (·.path)
def dirAt (l:List Fl) (p:Pa) (i:Nat):Bool:=decide (p[i]? = some 47) && decide (p.take i ∈ l.map (·.path))
def dirB (l:List Fl) (p:Pa):Bool:=(List.range p.length).any (dirAt l p)
def checkF (l:List Fl):Int:=if chkFGo none l ≠ 0 then chkFGo none l else if l.any (fun x=>dirB l x.path)=true then 7 else 0
theorem chkFGo_drop {l:List Fl} {k:Nat} (h:k < l.length):chkFGo (prevFP l k) (l.drop k)=if pathB l[k].path=false then 6 else if badFP (prevFP l k) l[k].path=true then 10 else chkFGo (prevFP l (k + 1)) (l.drop (k + 1)):=by
 have e:prevFP l (k + 1)=some l[k].path:=by rw [prevFP,List.getElem?_eq_getElem h]; rfl
 rw [List.drop_eq_getElem_cons h,chkFGo,e]
def pathsK (l:List Fl) (k:Nat) (s:Pa):Option Value:=if s ∈ (l.take k).map (·.path) then some (.bool true) else none
theorem pathsK_succ {l:List Fl} {k:Nat} (h:k < l.length) (s:Pa):(if s=l[k].path then some (Value.bool true) else pathsK l k s)=pathsK l (k + 1) s:=by
 unfold pathsK
 rw [List.take_succ_eq_append_getElem h,List.map_append]
 by_cases h1:s=l[k].path
 ·rw [if_pos h1,if_pos (by rw [h1]; simp)]
 ·rw [if_neg h1]
  by_cases h2:s ∈ (l.take k).map (·.path)
  ·rw [if_pos h2,if_pos (List.mem_append_left _ h2)]
  ·rw [if_neg h2,if_neg (by rw [List.mem_append]; rintro (h | h); exact h2 h; exact h1 (by simpa using h))]
theorem idx_str (s:List UInt8) (k:Nat) (hs:k < s.length) (W:World):(Instr.index 9 (.string ⟨s.toArray⟩) (.int .i64 (k:Int))).run Tryz.prog W = .ok (.int .u8 ((s[k]).toNat:Int)) W:=by
 obtain ⟨d,_,_,hd,h⟩:=idx ⟨s.toArray⟩ k (by rw [ba_len]; exact hs)
 rw [h W,hd]
 simp [hs]
theorem blob_any (D:Pa) (w:World):Calls Tryz.prog 47 #[.string ⟨D.toArray⟩] w fun e w'=>e = .returned ((blobO D).val none 0 none 0)/\Below w.heap.size w w':=by
 have hk:=BK.new w #[.int .i64 1,.string ⟨D.toArray⟩,.slice none 0 0,.int .u64 0,.int .u64 0,.slice none 0 0,.string ⟨#[]⟩,.int .i64 0,.string ⟨#[]⟩] 100
 have HB:Hid (Below w.heap.size w (w.alloc (.cells #[.int .i64 1,.string ⟨D.toArray⟩,.slice none 0 0,.int .u64 0,.int .u64 0,.slice none 0 0,.string ⟨#[]⟩,.int .i64 0,.string ⟨#[]⟩] 100))):=hid ((Below.refl _ w).alloc (Nat.le_refl _) _)
 obtain ⟨r0,r1,r2,r3,r4,r5,r6,r7,r8⟩:=BK.c9 hk
 go_enter Tryz.func47,Tryz.ntmps47
 go_wp2_with fail
 refine bodyPost_ret (v:=(blobO D).val none 0 none 0) (by simp [results,Tryz.results47,go_sem,blobO,Ob.val,r0,r1,r2,r3,r4,r5,r6,r7,r8]) rfl ?_
 exact ⟨rfl,HB.out⟩
theorem obIn_blob (w:World) {D:Pa} (h:D.length<=60000):ObIn w (blobO D) none 0 none 0:=⟨fun i h=>by simp [blobO] at h,fun i h=>by simp [blobO] at h,by simp [blobO],by simp [blobO],by simp [blobO],by simp [blobO],by simp [blobO],by simp [blobO],by simp [blobO],by simp only [blobO]; omega,by simp [blobO],by simp [blobO]⟩
theorem leq_str (P Q:Pa):(!Op.bytesLess Q P)=(Op.bytesLess P Q || P == Q):=by
 rcases ltS_total P Q with h | h | h
 ·have h2:Op.bytesLess Q P=false:=by
   cases hq:Op.bytesLess Q P with
   | false=>rfl
   | true=>exact absurd (ltS_trans h hq) (ltS_irrefl P)
  have h1:Op.bytesLess P Q=true:=h
  rw [h1,h2]; rfl
 ·subst h
  have h2:Op.bytesLess P P=false:=by
   cases hq:Op.bytesLess P P with
   | false=>rfl
   | true=>exact absurd hq (ltS_irrefl P)
  rw [h2]; simp
 ·have h1:Op.bytesLess Q P=true:=h
  have h2:Op.bytesLess P Q=false:=by
   cases hq:Op.bytesLess P Q with
   | false=>rfl
   | true=>exact absurd (ltS_trans h hq) (ltS_irrefl Q)
  have h3:(P == Q)=false:=by
   cases hq:(P == Q) with
   | false=>rfl
   | true=>rw [beq_iff_eq] at hq; subst hq; exact absurd h (ltS_irrefl P)
  rw [h1,h2,h3]; rfl
theorem zeroBoolT (W:World):(zeroValue 4).run Tryz.prog W = .ok (.bool false) W:=by kernel_rfl
theorem pathsK_all (l:List Fl) (s:Pa):(pathsK l l.length s).getD (.bool false) = .bool (decide (s ∈ l.map (·.path))):=by
 unfold pathsK
 rw [List.take_length]
 by_cases h:s ∈ l.map (·.path)
 ·rw [if_pos h,decide_eq_true h]; rfl
 ·rw [if_neg h,decide_eq_false h]; rfl
theorem dirB_false {l:List Fl} {p:Pa} {n:Nat} (hn:n=p.length) (h:∀ i,i < n->dirAt l p i=false):dirB l p=false:=by
 unfold dirB
 rw [List.any_eq_false]
 intro i hi
 simp [h i (by rw [hn]; simpa using hi)]
theorem dirB_true {l:List Fl} {p:Pa} {i:Nat} (hi:i < p.length) (h:dirAt l p i=true):dirB l p=true:=List.any_eq_true.2 ⟨i,by simpa using hi,h⟩
theorem tcheck_any (a:Option Addr) (l:List Fl) (c:Nat) (w:World) (hl:Fls w.heap.size w a l) (hn:l.length<=200) (hp:∀ x ∈ l,x.path.length<=100000) (hd:∀ x ∈ l,x.data.length<=60000) :
  Calls Tryz.prog 23 #[.slice a l.length c] w fun e w'=>e = .returned (.int .i64 (checkF l))/\Below w.heap.size w w':=by
 obtain ⟨R,hR⟩:∃ R,R=checkF l:=⟨_,rfl⟩
 rw [<-hR]
 have HL:=hid hl
 have HP:=hid hp
 have HD:=hid hd
 obtain ⟨E1,hE1⟩:∃ E1,E1=chkFGo none l:=⟨_,rfl⟩
 have HR:Hid (R=if E1 ≠ 0 then E1 else if l.any (fun x=>dirB l x.path)=true then 7 else 0):=hid (by rw [hR,hE1]; rfl)
 have HE0:Hid (E1=chkFGo (prevFP l 0) (l.drop 0)):=hid hE1
 obtain ⟨n,hnn⟩:∃ n,n=l.length:=⟨_,rfl⟩
 have HN:=hid hnn
 have hn2:n<=200:=by rw [hnn]; exact hn
 rw [<-hnn]
 have HM0:Hid (MapS w.heap.size 0 (pathsK l 0) (w.alloc (.map #[] 0))):=hid ((MapS.made w).eq (fun s=>by simp [pathsK]))
 have HB0:Hid (Below w.heap.size w (w.alloc (.map #[] 0))):=hid ((Below.refl _ w).alloc (Nat.le_refl _) _)
 clear hR hE1 hl hp hd hn hnn
 have h200:¬ ((200:Int) < (n:Int)):=by omega
 have hmm:=@run_makeMap Tryz.prog
 go_enter Tryz.func23,Tryz.ntmps23
 go_wp2_with fail
 go_loopw [15] (fun i wr=>∃ k:Nat,k<=n/\i = .int .i64 (k:Int)/\Hid (E1=chkFGo (prevFP l k) (l.drop k))/\Hid (MapS w.heap.size k (pathsK l k) wr)/\Hid (Below w.heap.size w wr)) (fun i _=>n - (intOf i).toNat)
 case atStart=>exact ⟨0,by omega,rfl,HE0,HM0,HB0⟩
 case round=>
  clear HE0 HM0 HB0
  obtain ⟨k,hk,rfl,HE,HM,HB⟩:=hrel
  have hws:=HB.out.size
  by_cases hlt:k < n
  ·have hki:(k:Int) < (n:Int):=by omega
   have hkl:k < l.length:=by rw [<-HN.out]; exact hlt
   have HS:=hid (chkFGo_drop hkl)
   obtain ⟨b0,of0,haa,hbb,q0,q1⟩:=fl_cells (HL.out.below HB.out (Nat.le_refl _)) hkl
   have HPK:=hid (fun s=>pathsK_succ hkl s)
   have HPL:=HP.out _ (List.getElem_mem hkl)
   have HDL:=HD.out _ (List.getElem_mem hkl)
   have HROW:=hid (fun j (hj:j < l.length) W (hW:Below w.heap.size w W)=>fl_cells (HL.out.below hW (Nat.le_refl _)) hj)
   have HE2:Hid (E1=if pathB l[k].path=false then 6 else if badFP (prevFP l k) l[k].path=true then 10 else chkFGo (prevFP l (k + 1)) (l.drop (k + 1))):=hid (HE.out.trans HS.out)
   generalize l[k]=x at q0 q1 HPK HPL HDL HE2
   obtain ⟨P,D⟩:=x
   simp only at q0 q1 HPK HPL HDL HE2
   subst haa
   have HBK:Hid (BK wr.heap.size #[.string ⟨P.toArray⟩,.string ⟨D.toArray⟩] 55 (wr.alloc (.cells #[.string ⟨P.toArray⟩,.string ⟨D.toArray⟩] 55))):=hid (BK.new _ _ _)
   obtain ⟨u1,hu1⟩:∃ u1,u1=wr.alloc (.cells #[.string ⟨P.toArray⟩,.string ⟨D.toArray⟩] 55):=⟨_,rfl⟩
   have HB1:Hid (Below w.heap.size w u1):=hid (by rw [hu1]; exact HB.out.alloc hws _)
   have HM1:Hid (MapS w.heap.size k (pathsK l k) u1):=hid (by rw [hu1]; exact HM.out.alloc _)
   have HK1:Hid (BK wr.heap.size #[.string ⟨P.toArray⟩,.string ⟨D.toArray⟩] 55 u1):=hid (by rw [hu1]; exact HBK.out)
   have HIP:=hid (isPath_any P (by omega) u1)
   have HU:=hid hu1
   rw [hu1] at HIP
   clear hu1 HBK HM HB HE HS
   cases hv:pathB P with
   | false=>
    rw [hv] at HIP
    have HRF:Hid (R=6):=hid (by rw [HR.out,HE2.out,hv]; rfl)
    clear HE2 hv HPK HROW
    go_wp2_with fail
    (with_reducible refine (HIP.out).mono ?_)
    rintro e u2 ⟨rfl,hb2⟩
    have HB2:=hid (HB1.out.trans (by rw [<-HU.out] at hb2; exact hb2.mono HB1.out.size))
    clear hb2
    go_wp2_with fail
    go_ret
    exact ⟨by rw [HRF.out]; rfl,HB2.out⟩
   | true=>
    rw [hv] at HIP
    have HE3:Hid (E1=if badFP (prevFP l k) P=true then 10 else chkFGo (prevFP l (k + 1)) (l.drop (k + 1))):=hid (by rw [HE2.out,hv]; rfl)
    have HBL:=hid (fun W=>blob_any D W)
    have HCH:=hid (fun W=>ocheck_any (blobO D) none 0 none 0 W (obIn_blob W HDL))
    rw [(blob_enc HDL).1] at HCH
    clear HE2 hv
    go_wp2_with fail
    (with_reducible refine (HIP.out).mono ?_)
    rintro e u2 ⟨rfl,hb2⟩
    rw [<-HU.out] at hb2
    have HB2:=hid (HB1.out.trans (hb2.mono HB1.out.size))
    have HM2:=hid (HM1.out.below hb2)
    have HK2:=hid (HK1.out.below hb2)
    have hz2:=hb2.size
    clear hb2 HIP HB1 HM1 HK1 HU
    have c0:=HK2.out.c2
    obtain ⟨c0,c1⟩:=c0
    go_wp2_with fail
    (with_reducible refine (HBL.out _).mono ?_)
    rintro e u3 ⟨rfl,hb3⟩
    have HB3:=hid (HB2.out.trans (hb3.mono HB2.out.size))
    have HM3:=hid (HM2.out.below hb3)
    have HK3:=hid (HK2.out.below hb3)
    clear hb3 HBL HB2 HM2 HK2 c0 c1
    go_wp2_with fail
    (with_reducible refine (HCH.out _).mono ?_)
    rintro e u4 ⟨rfl,hb4⟩
    have HB4:=hid (HB3.out.trans (hb4.mono HB3.out.size))
    have HM4:=hid (HM3.out.below hb4)
    have HK4:=hid (HK3.out.below hb4)
    clear hb4 HCH HB3 HM3 HK3
    obtain ⟨c0,c1⟩:=HK4.out.c2
    by_cases hk0:k=0
    ·have g0:decide ((0:Int) < (k:Int))=false:=by simp; omega
     have g1:decide (0 < k)=false:=by simp; omega
     have HE4:Hid (E1=chkFGo (prevFP l (k + 1)) (l.drop (k + 1))):=hid (by rw [HE3.out,hk0]; rfl)
     clear hk0 HE3 HROW
     go_wp2_with fail
     go_quiet (fail)
     have HB5:=hid (below_drewN HB4.out nq)
     have HM5:=hid (HM4.out.below (below_drewN (Below.refl u4.heap.size u4) nq))
     have HK5:=hid (HK4.out.below (below_drewN (Below.refl u4.heap.size u4) nq))
     generalize u4.drewN nq=u5 at HB5 HM5 HK5 ⊢
     clear HB4 HM4 HK4 c0 c1
     obtain ⟨c0,c1⟩:=HK5.out.c2
     obtain ⟨W',hrun,hm',hg,hsz⟩:=HM5.out.put Tryz.underlying63 (s:=P) (by omega) (by omega) (.bool true)
     have HM6:Hid (MapS w.heap.size (k + 1) (pathsK l (k + 1)) W'):=hid (hm'.eq (fun s=>HPK.out s))
     have HB6:Hid (Below w.heap.size w W'):=hid (HB5.out.grown hg HB5.out.size (fun j hj=>by cases hj; exact Nat.le_refl _))
     clear hm' hg HB5 HM5 HK5 HPK
     go_wp2_with fail
     go_roundw
     case rel=>exact ⟨k + 1,by omega,by go_num,HE4,HM6,HB6⟩
     case measure=>simp [intOf] <;> omega
    ·have g0:decide ((0:Int) < (k:Int))=true:=by simp; omega
     have g1:decide (0 < k)=true:=by simp; omega
     obtain ⟨j,hj⟩:∃ j,k=j + 1:=⟨k - 1,by omega⟩
     have hj1:j < l.length:=by have:=HN.out; omega
     obtain ⟨_,_,haa,_,p0,p1⟩:=HROW.out j hj1 u4 HB4.out
     cases haa
     have hjk:(k:Int) - 1=(j:Int):=by omega
     have hjw:IntKind.i64.wrap ((k:Int) - 1)=(j:Int):=by rw [hjk]; exact wrap_i64 (by omega) (by omega)
     have hjn:(j:Int) < (n:Int):=by omega
     have HPV:Hid (prevFP l k=some l[j].path):=hid (by rw [hj,prevFP,List.getElem?_eq_getElem hj1]; rfl)
     generalize l[j]=y at p0 p1 HPV
     obtain ⟨Q,Y⟩:=y
     simp only at p0 p1 HPV
     cases hlq:Op.bytesLess Q P with
     | false=>
      have HRF:Hid (R=10):=hid (by
       have h:E1=10:=by rw [HE3.out,HPV.out,badFP,hlq]; rfl
       rw [HR.out,h]; rfl)
      have hle:(Op.bytesLess P Q || P == Q)=true:=by rw [<-leq_str,hlq]; rfl
      clear HE3 HPV hj hk0 HPK HROW
      go_wp2_with fail
      go_quiet (fail)
      have HB5:=hid (below_drewN HB4.out nq)
      go_wp2_with fail
      go_ret
      exact ⟨by rw [HRF.out]; rfl,HB5.out⟩
     | true=>
      have HE4:Hid (E1=chkFGo (prevFP l (k + 1)) (l.drop (k + 1))):=hid (by rw [HE3.out,HPV.out,badFP,hlq]; rfl)
      have hle:(Op.bytesLess P Q || P == Q)=false:=by rw [<-leq_str,hlq]; rfl
      clear HE3 HPV hj hk0 HROW
      go_wp2_with fail
      go_quiet (fail)
      have HB5:=hid (below_drewN HB4.out nq)
      have HM5:=hid (HM4.out.below (below_drewN (Below.refl u4.heap.size u4) nq))
      have HK5:=hid (HK4.out.below (below_drewN (Below.refl u4.heap.size u4) nq))
      generalize u4.drewN nq=u5 at HB5 HM5 HK5 ⊢
      clear HB4 HM4 HK4 c0 c1
      obtain ⟨c0,c1⟩:=HK5.out.c2
      obtain ⟨W',hrun,hm',hg,hsz⟩:=HM5.out.put Tryz.underlying63 (s:=P) (by omega) (by omega) (.bool true)
      have HM6:Hid (MapS w.heap.size (k + 1) (pathsK l (k + 1)) W'):=hid (hm'.eq (fun s=>HPK.out s))
      have HB6:Hid (Below w.heap.size w W'):=hid (HB5.out.grown hg HB5.out.size (fun j hj=>by cases hj; exact Nat.le_refl _))
      clear hm' hg HB5 HM5 HK5 HPK
      go_wp2_with fail
      go_roundw
      case rel=>exact ⟨k + 1,by omega,by go_num,HE4,HM6,HB6⟩
      case measure=>simp [intOf] <;> omega
  ·obtain rfl:k=n:=by omega
   have hki:¬ (k:Int) < (k:Int):=by omega
   have HZ:Hid (E1=0):=hid (by rw [HE.out,List.drop_of_length_le (by have:=HN.out; omega)]; rfl)
   have HR2:Hid (R=if l.any (fun x=>dirB l x.path)=true then 7 else 0):=hid (by rw [HR.out,HZ.out,if_neg (by simp)])
   have HMA:Hid (MapS w.heap.size k (pathsK l l.length) wr):=hid (by rw [<-HN.out]; exact HM.out)
   have HYES:Hid (∀ j (hj:j < l.length),dirB l l[j].path=true->R=7):=hid (fun j hj h=>by rw [HR2.out,if_pos (List.any_eq_true.2 ⟨_,List.getElem_mem hj,h⟩)])
   have HNO:Hid ((∀ j (hj:j < l.length),dirB l l[j].path=false)->R=0):=hid (fun h=>by rw [HR2.out,if_neg (by rw [any_take _ h]; simp)])
   obtain ⟨v0,hv0⟩:∃ v0,v0=wr:=⟨_,rfl⟩
   have HMV:Hid (MapS w.heap.size k (pathsK l l.length) v0):=hid (by rw [hv0]; exact HMA.out)
   have HBV:Hid (Below w.heap.size w v0):=hid (by rw [hv0]; exact HB.out)
   have hv0s:w.heap.size + 1<=v0.heap.size:=HMV.out.lt
   have HB2:Hid (Below v0.heap.size v0 wr):=hid (by rw [hv0]; exact Below.refl _ _)
   clear HE HM HZ HR2 HR HMA HB hv0
   go_wp2_with fail
   go_loopw [51] (fun i wr=>∃ j:Nat,j<=k/\i = .int .i64 (j:Int)/\Hid (∀ q (hq:q < l.length),q < j->dirB l l[q].path=false)/\Hid (Below v0.heap.size v0 wr)) (fun i _=>k - (intOf i).toNat)
   case atStart=>exact ⟨0,by omega,rfl,hid (fun _ _ h=>by omega),HB2⟩
   case round=>
    clear HB2 hki hws
    obtain ⟨j,hj,rfl,HA,HB⟩:=hrel
    have hws:=HB.out.size
    by_cases hjlt:j < k
    ·have hji:(j:Int) < (k:Int):=by omega
     have hjl:j < l.length:=by rw [<-HN.out]; exact hjlt
     have HB3:Hid (Below w.heap.size w wr):=hid (HBV.out.trans (HB.out.mono (by omega)))
     obtain ⟨b0,of0,haa,hbb,q0,q1⟩:=fl_cells (HL.out.below HB3.out (Nat.le_refl _)) hjl
     have HPL:=HP.out _ (List.getElem_mem hjl)
     have HY:=hid (HYES.out j hjl)
     have HNX:Hid (dirB l l[j].path=false->∀ q (hq:q < l.length),q < j + 1->dirB l l[q].path=false):=hid (fun h q hq hqj=>by
      by_cases e:q=j
      ·subst e; exact h
      ·exact HA.out q hq (by omega))
     generalize l[j]=x at q0 q1 HPL HY HNX
     obtain ⟨P,D⟩:=x
     simp only at q0 q1 HPL HY HNX
     subst haa
     obtain ⟨u1,hu1⟩:∃ u1,u1=wr.alloc (.cells #[.string ⟨P.toArray⟩,.string ⟨D.toArray⟩] 55):=⟨_,rfl⟩
     have HK1:Hid (BK wr.heap.size #[.string ⟨P.toArray⟩,.string ⟨D.toArray⟩] 55 u1):=hid (by rw [hu1]; exact BK.new _ _ _)
     have HB1:Hid (Below v0.heap.size v0 u1):=hid (by rw [hu1]; exact HB.out.alloc hws _)
     have HU:=hid hu1
     have hz1:wr.heap.size < u1.heap.size:=by rw [hu1]; simp
     obtain ⟨m,hm⟩:∃ m,m=P.length:=⟨_,rfl⟩
     have HMM:=hid hm
     have hsP:=ba_len P
     rw [<-hm] at hsP
     have HG:Hid (P.length<=100000):=hid HPL
     have hmb:(m:Int)<=100000:=by omega
     clear hu1 HB HA HYES HNO hm HPL
     go_wp2_with fail
     rw [<-HU.out]
     go_loopw [58] (fun i wx=>∃ q:Nat,q<=m/\i = .int .i64 (q:Int)/\Hid (∀ t,t < q->dirAt l P t=false)/\Hid (Below u1.heap.size u1 wx)) (fun i _=>m - (intOf i).toNat)
     case atStart=>exact ⟨0,by omega,rfl,hid (fun t h=>by omega),hid (Below.refl _ _)⟩
     case round=>
      obtain ⟨q,hq,rfl,HT,HX⟩:=hrel
      have hwx:=HX.out.size
      obtain ⟨c0,c1⟩:=(HK1.out.below HX.out).c2
      by_cases hqm:q < m
      ·have hqi:(q:Int) < (m:Int):=by omega
       have hqP:q < P.length:=by rw [<-HMM.out]; exact hqm
       have hidx:=fun W=>idx_str P q hqP W
       have hsl:=sl_hi P q (by omega)
       have hlk:=((HMV.out.below HB1.out).below HX.out).look Tryz.underlying63 (zeroBoolT _) (s:=P.take q) (by rw [List.length_take]; have:=HG.out; omega)
       rw [pathsK_all] at hlk
       have HDA:Hid (dirAt l P q=(decide (P[q]=47) && decide (P.take q ∈ l.map (·.path)))):=hid (by unfold dirAt; rw [List.getElem?_eq_getElem hqP]; simp)
       have HST:Hid (dirAt l P q=false->∀ t,t < q + 1->dirAt l P t=false):=hid (fun h t ht=>by
        by_cases e:t=q
        ·rw [e]; exact h
        ·exact HT.out t (by omega))
       have HDB:Hid (dirAt l P q=true->R=7):=hid (fun h=>HY.out (dirB_true hqP h))
       have HBX:=hid (HB1.out.trans (HX.out.mono HB1.out.size))
       clear HNX HY HT
       by_cases h47:P[q]=47
       ·have e47:((P[q]).toNat:Int)=47:=by rw [h47]; rfl
        rw [e47] at hidx
        rw [decide_eq_true h47,Bool.true_and] at HDA
        cases hmem:decide (P.take q ∈ l.map (·.path)) with
        | true=>
         rw [hmem] at hlk HDA
         have HRF:=hid (HDB.out HDA.out)
         clear HDA HDB HST h47 e47 hmem
         go_wp2_with fail
         go_ret
         exact ⟨by rw [HRF.out]; rfl,HBV.out.trans (HBX.out.mono (by omega))⟩
        | false=>
         rw [hmem] at hlk HDA
         have HTN:=hid (HST.out HDA.out)
         clear HDA HDB HST h47 e47 hmem
         go_wp2_with fail
         go_roundw
         case rel=>exact ⟨q + 1,by omega,by go_num,HTN,HX⟩
         case measure=>simp [intOf] <;> omega
       ·have e47:(((P[q]).toNat:Int) == 47)=false:=by
         have:(P[q]).toNat ≠ 47:=fun e=>h47 (UInt8.toNat_inj.1 e)
         simp; omega
        rw [decide_eq_false h47,Bool.false_and] at HDA
        have HTN:=hid (HST.out HDA.out)
        obtain ⟨cc,hcc⟩:∃ cc,cc=((P[q]).toNat:Int):=⟨_,rfl⟩
        rw [<-hcc] at hidx e47
        have hne:¬ cc=47:=by simpa using e47
        clear HDA HDB HST h47 hcc hlk
        go_wp2_with fail
        go_roundw
        case rel=>exact ⟨q + 1,by omega,by go_num,HTN,HX⟩
        case measure=>simp [intOf] <;> omega
      ·obtain rfl:q=m:=by omega
       have hqi:¬ (q:Int) < (q:Int):=by omega
       have HF:=hid (HNX.out (dirB_false HMM.out HT.out))
       have HB2:=hid (HB1.out.trans (HX.out.mono HB1.out.size))
       clear HNX HY HX HT
       go_wp2_with fail
       go_roundw
       case rel=>exact ⟨j + 1,by omega,by go_num,HF,HB2⟩
       case measure=>simp [intOf] <;> omega
    ·obtain rfl:j=k:=by omega
     have hji:¬ (j:Int) < (j:Int):=by omega
     have HR:=hid (HNO.out (fun q hq=>HA.out q hq (by have:=HN.out; omega)))
     clear HYES HNO HA
     go_wp2_with fail
     go_ret
     exact ⟨by rw [HR.out]; rfl,HBV.out.trans (HB.out.mono (by omega))⟩
theorem lindex_slash (s:List UInt8) (w:World):Calls Tryz.prog 111 #[.string ⟨s.toArray⟩,.string ⟨#[47]⟩] w fun e w'=>e = .returned (.int .i64 (if (cutS s).2.2=true then ((cutS s).1.length:Int) else -1))/\w' = w:=by
 have h:=Any.stringslite_Index_one (P:=Tryz.prog) (ρ:=Tryz.indexS_ren) { Tryz.indexS with } ⟨s.toArray⟩ 47 w
 rw [<-index_cut]
 exact h
theorem cut_any (s:List UInt8) (hs:(s.length:Int)<=1000000) (w:World):Calls Tryz.prog 48 #[.string ⟨s.toArray⟩,.string ⟨#[47]⟩] w fun e w'=>e = .returned (.tuple #[.string ⟨(cutS s).1.toArray⟩,.string ⟨(cutS s).2.1.toArray⟩,.bool (cutS s).2.2])/\Below w.heap.size w w':=by
 have H:Calls Tryz.prog 81 #[.string ⟨s.toArray⟩,.string ⟨#[47]⟩] w fun e w'=>e = .returned (.tuple #[.string ⟨(cutS s).1.toArray⟩,.string ⟨(cutS s).2.1.toArray⟩,.bool (cutS s).2.2])/\Below w.heap.size w w':=by
  have HX:=lindex_slash s w
  have hsl:=ba_len s
  cases hc:(cutS s).2.2 with
  | false=>
   rw [hc,if_neg (by simp)] at HX
   have HX:=hid HX
   obtain ⟨e1,e2⟩:(cutS s).1=s/\(cutS s).2.1=[]:=by
    rcases cutS_law s with ⟨h1,_⟩ | ⟨_,h2,h3,_⟩
    ·rw [hc] at h1; cases h1
    ·exact ⟨h2.symm,h3⟩
   rw [e1,e2]
   go_enter Tryz.func81,Tryz.ntmps81
   go_wp2_with fail
   (with_reducible refine HX.out.mono ?_)
   rintro e w' ⟨rfl,rfl⟩
   go_wp2_with fail
   go_ret3
   exact ⟨rfl,Below.refl _ _⟩
  | true=>
   rw [hc,if_pos rfl] at HX
   have HX:=hid HX
   obtain ⟨t1,t2,t3⟩:=cut_take hc
   have hh:=sl_hi s (cutS s).1.length (by omega)
   have hl:∀ W,(Instr.slice 9 (.string ⟨s.toArray⟩) (some (.int .i64 (((cutS s).1.length:Int) + 1))) none none).run Tryz.prog W = .ok (.string ⟨(s.drop ((cutS s).1.length + 1)).toArray⟩) W:=fun W=>sl_lo s ((cutS s).1.length + 1) t3 W
   rw [t1] at hh
   rw [t2] at hl
   clear hc t1 t2
   generalize (cutS s).1=x at hh hl HX t3 ⊢
   generalize (cutS s).2.1=q at hl ⊢
   generalize x.length=k at hh hl HX t3
   have hk:(k:Int) + 1<=1000000:=by omega
   clear t3
   go_enter Tryz.func81,Tryz.ntmps81
   go_wp2_with fail
   (with_reducible refine HX.out.mono ?_)
   rintro e w' ⟨rfl,rfl⟩
   go_wp2_with fail
   go_quiet (fail)
   go_wp2_with fail
   go_ret3
   exact ⟨rfl,below_drewN (Below.refl _ _) _⟩
 go_enter Tryz.func48,Tryz.ntmps48
 go_wp2_with fail
 (with_reducible refine H.mono ?_)
 rintro e w' ⟨rfl,hb⟩
 go_wp2_with fail
 go_ret3
 exact ⟨rfl,hb⟩
abbrev cmpS (a b:Pa):Int:=Lib.compareBytes a b
theorem cmpS_lt:∀ a b:Pa,(cmpS a b < 0 ↔ ltS a b)/\(cmpS a b=0 ↔ a=b)
 | [],[]=>by simp [cmpS,Lib.compareBytes,ltS,Op.bytesLess]
 | [],_ :: _=>by simp [cmpS,Lib.compareBytes,ltS,Op.bytesLess]
 | _ :: _,[]=>by simp [cmpS,Lib.compareBytes,ltS,Op.bytesLess]
 | x :: a,y :: b=>by
  obtain ⟨h1,h2⟩:=cmpS_lt a b
  unfold ltS cmpS at *
  rw [Lib.compareBytes,Op.bytesLess]
  by_cases g1:x < y
  ·have g2:x ≠ y:=fun e=>by subst e; exact absurd g1 (UInt8.lt_irrefl x)
   simp [g1,g2]
  ·by_cases g2:y < x
   ·have g3:x ≠ y:=fun e=>by subst e; exact absurd g2 (UInt8.lt_irrefl x)
    simp [g1,g2,g3]
   ·have g3:x=y:=UInt8.le_antisymm (UInt8.not_lt.1 g2) (UInt8.not_lt.1 g1)
    subst g3
    rw [if_neg g1,if_neg g1]
    refine ⟨?_,?_⟩
    ·rw [h1]; simp [g1]
    ·rw [h2]; simp
structure AtF (l:List Fl) (s:Pa) (k:Nat):Prop where
 le:k<=l.length
 lo:∀ j (h:j < l.length),j < k->ltS l[j].path s
 hi:∀ j (h:j < l.length),k<=j->¬ ltS l[j].path s
def hitF (l:List Fl) (s:Pa) (k:Nat):Bool:=match l[k]? with | some x=>decide (x.path=s) | none=>false
def BSF (l:List Fl) (s:Pa) (i j:Nat):Prop:=(∀ k (h:k < l.length),k < i->ltS l[k].path s)/\∀ k (h:k < l.length),j<=k->¬ ltS l[k].path s
theorem ascF_at {l:List Fl} (h:AscF l) {i j:Nat} (hi:i < l.length) (hj:j < l.length) (hij:i < j):ltS l[i].path l[j].path:=List.pairwise_iff_getElem.1 h i j hi hj hij
theorem BSF.left {l:List Fl} {s:Pa} {i j h:Nat} (hb:BSF l s i j) (ha:AscF l) (hh:h < l.length) (hc:ltS l[h].path s):BSF l s (h + 1) j:=by
 refine ⟨fun k hk hlt=>?_,hb.2⟩
 rcases Nat.lt_or_ge k h with h1 | h1
 ·exact ltS_trans (ascF_at ha hk hh h1) hc
 ·obtain rfl:k=h:=by omega
  exact hc
theorem BSF.right {l:List Fl} {s:Pa} {i j h:Nat} (hb:BSF l s i j) (ha:AscF l) (hh:h < l.length) (hc:¬ ltS l[h].path s):BSF l s i h:=by
 refine ⟨hb.1,fun k hk hlt hx=>?_⟩
 rcases Nat.lt_or_ge h k with h1 | h1
 ·exact hc (ltS_trans (ascF_at ha hh hk h1) hx)
 ·obtain rfl:k=h:=by omega
  exact hc hx
def GotFF (w:World) (l:List Fl) (s:Pa) (e:Ending) (w':World):Prop:=∃ k:Nat,e = .returned (.tuple #[.int .i64 k,.bool (hitF l s k)])/\AtF l s k/\Below w.heap.size w w'
end Go.Proofs.YtdedfkljaeloiaaGreatDoor
