/- Joined texts: ApTd, ApTe. -/
import Derived.Test.YtdedfkljaeloiaaGreatDoorG11
import Derived.Test.YtdedfkljaeloiaaGreatDoorG4
import Derived.Test.YtdedfkljaeloiaaGreatDoorApLk
import Derived.Test.YtdedfkljaeloiaaGreatDoorTtLd
/- tree.Diff on paper; slices.Sorted at the keys of its map. -/
set_option maxRecDepth 100000
set_option maxHeartbeats 16000000
open Go.Lib (hid)
namespace Go.Proofs.YtdedfkljaeloiaaGreatDoor
open Go.RowKit Go.Shelf Go.Sort
set_option linter.unusedVariables false
def chO (l m:List Fl) (p:Pa):Option Fc:=if (dataF l p).isSome=true\/(dataF m p).isSome=true then some (mkFc p (dataF l p) (dataF m p)) else none
def fcV1 (c:Fc):Value:=.agg #[.string ⟨c.path.toArray⟩,.bool c.ho,.bool c.hn,.string ⟨c.old.toArray⟩,.string ⟨c.new.toArray⟩]
def chF (l m:List Fl) (p:Pa):Option Value:=(chO l m p).map fcV1
theorem dataF_snoc {l:List Fl} {x:Fl} (h:∀ y ∈ l,y.path ≠ x.path) (p:Pa):dataF (l ++ [x]) p=if p=x.path then some x.data else dataF l p:=by
 induction l with
 | nil=>
  simp only [List.nil_append,dataF]
  by_cases e:p=x.path
  ·rw [if_pos e,if_pos e.symm]
  ·rw [if_neg e,if_neg (fun h=>e h.symm)]
 | cons y l ih=>
  rw [List.cons_append,dataF,dataF,ih (fun z hz=>h z (List.mem_cons_of_mem _ hz))]
  by_cases e:p=x.path
  ·rw [if_pos e,if_pos e,if_neg (fun e2=>h y (by simp) (e2.trans e))]
  ·simp only [if_neg e]
theorem asc_take {l:List Fl} (h:AscF l) {k:Nat} (hk:k < l.length):∀ y ∈ l.take k,y.path ≠ l[k].path:=fun y hy e=>by
 have h2:AscF (l.take k ++ l.drop k):=by rw [List.take_append_drop]; exact h
 have h3:=(List.pairwise_append.1 h2).2.2 y hy l[k] (by rw [List.drop_eq_getElem_cons hk]; exact List.mem_cons_self ..)
 have h4:ltS y.path l[k].path:=h3
 rw [e] at h4
 exact ltS_irrefl _ h4
theorem ch1 {l:List Fl} (h:AscF l) {k:Nat} (hk:k < l.length) (p:Pa):(if p=l[k].path then some (fcV1 (mkFc l[k].path (some l[k].data) none)) else chF (l.take k) [] p)=chF (l.take (k + 1)) [] p:=by
 unfold chF chO
 rw [List.take_succ_eq_append_getElem hk,dataF_snoc (asc_take h hk)]
 by_cases e:p=l[k].path
 ·rw [if_pos e,if_pos e,if_pos (.inl rfl),e]; rfl
 ·simp only [if_neg e]
theorem ch2 {l m:List Fl} (h:AscF m) {k:Nat} (hk:k < m.length) (p:Pa):(if p=m[k].path then some (fcV1 (mkFc m[k].path (dataF l m[k].path) (some m[k].data))) else chF l (m.take k) p)=chF l (m.take (k + 1)) p:=by
 unfold chF chO
 rw [List.take_succ_eq_append_getElem hk,dataF_snoc (asc_take h hk)]
 by_cases e:p=m[k].path
 ·rw [if_pos e,if_pos e,if_pos (.inr rfl),e]; rfl
 ·simp only [if_neg e]
def chZ (l:List Fl) (p:Pa):Fc:=(chO l [] p).getD ⟨[],false,false,[],[]⟩
theorem ch_get {l m:List Fl} (h:AscF m) {k:Nat} (hk:k < m.length):(chF l (m.take k) m[k].path).getD (fcV1 ⟨[],false,false,[],[]⟩)=fcV1 (chZ l m[k].path):=by
 unfold chF chZ chO
 rw [dataF_none (asc_take h hk)]
 show (Option.map fcV1 (if _\/(dataF [] m[k].path).isSome=true then _ else _)).getD _=_
 generalize (dataF l m[k].path)=d
 cases d <;> rfl
theorem chZ_eq (l:List Fl) (p:Pa):(chZ l p).ho=(dataF l p).isSome/\(chZ l p).old=(dataF l p).getD []:=by
 unfold chZ chO
 simp only [dataF]
 cases dataF l p <;> simp [mkFc]
theorem zeroFcT (W:World):(zeroValue 42).run Tryz.prog W = .ok (fcV1 ⟨[],false,false,[],[]⟩) W:=by kernel_rfl
theorem chF_mem {l m:List Fl} {p:Pa} (h:(chF l m p).isSome=true):p ∈ l.map (·.path) ++ m.map (·.path):=by
 by_cases h1:∀ x ∈ l,x.path ≠ p
 ·by_cases h2:∀ x ∈ m,x.path ≠ p
  ·unfold chF chO at h
   rw [dataF_none h1,dataF_none h2] at h
   simp at h
  ·simp only [Classical.not_forall,Decidable.not_not] at h2
   obtain ⟨x,hx,e⟩:=h2
   rw [<-e]
   simp only [List.mem_append,List.mem_map]
   exact .inr ⟨x,hx,rfl⟩
 ·simp only [Classical.not_forall,Decidable.not_not] at h1
  obtain ⟨x,hx,e⟩:=h1
  rw [<-e]
  simp only [List.mem_append,List.mem_map]
  exact .inl ⟨x,hx,rfl⟩
theorem nd_len:∀ {s t:List Pa},s.Nodup->(∀ x ∈ s,x ∈ t)->s.length<=t.length
 | [],_,_,_=>Nat.zero_le _
 | a :: s,t,hn,h=>by
  have h1:=List.nodup_cons.1 hn
  have h2:=nd_len (t:=t.erase a) h1.2 (fun x hx=>(List.mem_erase_of_ne (fun e=>h1.1 (by rw [<-e]; exact hx))).2 (h x (List.mem_cons_of_mem _ hx)))
  have h3:=h a (by simp)
  rw [List.length_erase_of_mem h3] at h2
  have:=List.length_pos_of_mem h3
  simp only [List.length_cons]
  omega
theorem sort_ex {ss:List Pa} (h:ss.Nodup):∃ ns,ss.Perm ns/\ns.Pairwise ltS:=by
 refine ⟨ss.mergeSort fun x y=>decide (x<=y),(List.mergeSort_perm _ _).symm,?_⟩
 have h1:=List.pairwise_mergeSort (le:=fun x y:Pa=>decide (x<=y)) (fun a b c h1 h2=>by
  simp only [decide_eq_true_eq] at *
  exact List.le_trans h1 h2) (fun a b=>by
  simp only [Bool.or_eq_true,decide_eq_true_eq]
  exact List.le_total a b) ss
 have h2:(ss.mergeSort fun x y=>decide (x<=y)).Nodup:=(List.mergeSort_perm _ _).nodup_iff.2 h
 refine (h1.and h2).imp (fun {a b} h=>?_)
 obtain ⟨h3,h4⟩:=h
 rw [decide_eq_true_eq,le_iff] at h3
 rcases ltS_total a b with h5 | h5 | h5
 ·exact h5
 ·exact absurd h5 h4
 ·exact absurd h5 h3
theorem keysC_any {b n:Nat} {F:Pa->Option Value} {w:World} (h:MapS b n F w):Calls Tryz.prog 27 #[.map (some b)] w fun e w'=>e = .returned (.func (.func 59) #[] #[.pointer (some ⟨w.heap.size,0,none⟩)])/\w' = w.alloc (.cells #[.map (some b)] 69):=
 (callsIn_wide (n:=5)).1 (AnyZ.keys_in Tryz.keysC Fence.wide 5 trivial rfl (some b) w)
theorem keysC_stops {b n:Nat} {F:Pa->Option Value} {w:World} (h:MapS b n F w) {B:Nat} (hB:B < w.heap.size) (hm:w.cell? ⟨B,0,none⟩=some (.map (some b))) :
  ∃ Sp,SeqStops Fence.wide (5 - 1) Tryz.prog 59 #[.pointer (some ⟨B,0,none⟩)] encStr (KeysOf' F) Sp n w:=by
 obtain ⟨D,h1,h2⟩:=h
 have hn:=strKeys_nodup h1
 have hs:=h1.size_le
 have hst:=AnyZ.keys_stops (ρ:=Tryz.keysC_ren) { Tryz.keysC with } Fence.wide (5 - 1) trivial rfl (by omega) B b n D w hB hm h1
 refine ⟨fun pre=>pre.Nodup/\∀ x,x ∈ pre->Maps.has D (.string x)=true,fun l J Jx W hW hJ hJx hY h0=>?_⟩
 refine (hst l J Jx W hW hJ hJx (fun pre x W1 hj hl=>hY pre x W1 hj (by omega)) h0).mono ?_
 rintro e W' ⟨hv,(⟨ss,⟨hp,hm⟩,hj⟩ | hx)⟩
 ·exact ⟨hv,.inl ⟨ss,⟨hp.nodup_iff.2 hn,fun x=>by rw [hm x,has_F (b:=b) (n:=n) (W:=w) h2]⟩,hj⟩⟩
 ·exact ⟨hv,.inr hx⟩
theorem sorted_any {base gf N:Nat} {lb:Array Value} {S Sp:List Pa->Prop} (w:World) (eg:∀ args w,(callFunc gf args).run Tryz.prog w = .ok (.enter gf args) w)
  (hseq:SeqStops Fence.wide (5 - 1) Tryz.prog gf lb encStr S Sp N w) (hbase:base<=w.heap.size) (hN:(N:Int)<=1000000) (hS:∀ ss,S ss->ss.Nodup/\ss.length<=1000000) :
  Calls Tryz.prog 26 #[.func (.func gf) #[] lb] w fun e w'=>∃ a c ss ns,e = .returned (.slice a ns.length c)/\S ss/\ss.Perm ns/\w'.ownsRow base 9 1 (.slice a ns.length c) ns.length (ns.map encStr)/\Below base w w':=by
 have H:=hid (collect_any w eg hseq hbase hN)
 clear hseq eg
 go_enter Tryz.func26,Tryz.ntmps26
 go_wp2_with fail
 (with_reducible refine H.out.mono ?_)
 rintro e u ⟨v,ss,rfl,hS1,hrow,hb⟩
 obtain ⟨h1,h2⟩:=hS ss hS1
 obtain ⟨ns,hp,hns⟩:=sort_ex h1
 obtain ⟨va,vc,rfl,_⟩:=ownsRow_sliceN hrow
 have HS:=hid (sortStr_any va vc ss ns u hrow hp hns h2)
 have HG:=hid (hrow.lt)
 have HB:=hid hb
 have hle:=hp.length_eq
 generalize ss.length=k at HS hle HG
 subst hle
 clear hrow hb H
 go_wp2_with fail
 (with_reducible refine HS.out.mono ?_)
 rintro e u2 ⟨rfl,ho,hg⟩
 have HO:=hid ho
 have HB2:=hid (HB.out.grown hg (Nat.le_trans hbase HB.out.size) (fun j e=>(HG.out j e).1))
 clear ho hg
 go_wp2_with fail
 go_ret
 exact ⟨va,vc,ss,ns,rfl,hS1,hp,HO.out,HB2.out⟩
def GotTd (w:World) (l m:List Fl) (e:Ending) (w':World):Prop:=Below w.heap.size w w'/\∃ a c cs,e = .returned (.tuple #[.slice a (cs:List Fc).length c,.int .i64 0])/\Fcs w'.heap.size w' a cs/\cs.length<=400/\∀ x ∈ cs,∃ p,x=mkFc p (dataF l p) (dataF m p)/\dataF l p ≠ dataF m p
structure TdI (u:World) (mb n:Nat) (F:Pa->Option Value) (W:World):Prop where
 ma:MapS mb n F W
 be:Below u.heap.size u W
 lo:u.heap.size<=mb
theorem TdI.below {u W W':World} {mb n:Nat} {F:Pa->Option Value} (h:TdI u mb n F W) (hb:Below W.heap.size W W'):TdI u mb n F W':=⟨h.ma.below hb,h.be.trans (hb.mono h.be.size),h.lo⟩
theorem TdI.put {u W:World} {mb n:Nat} {F F':Pa->Option Value} (h:TdI u mb n F W) {s:Pa} (hs:s.length<=1000000) (hn:(n:Int)<=1000000) (v:Value) (hF:∀ p,(if p=s then some v else F p)=F' p) :
  ∃ W',(Instr.mapUpdate 69 (.map (some mb)) (.string ⟨s.toArray⟩) v).run Tryz.prog W = .ok () W'/\TdI u mb (n + 1) F' W':=by
 obtain ⟨W2,k1,k2,k3,k4⟩:=h.ma.put Tryz.underlying69 hs (by omega) v
 have:=h.lo
 exact ⟨W2,k1,k2.eq hF,h.be.grown k3 h.be.size (fun j e=>by cases e; omega),h.lo⟩
theorem gcs_st (l:List Pa):gcs stCs l=l.map encStr:=by
 induction l with
 | nil=>rfl
 | cons x l ih=>rw [List.map_cons,<-ih]; rfl
theorem chF_at {l m:List Fl} {p:Pa} (h:(chF l m p).isSome=true) (z:Value):(chF l m p).getD z=fcV1 (mkFc p (dataF l p) (dataF m p)):=by
 unfold chF chO at h ⊢
 split at h
 ·rename_i h1; rw [if_pos h1]; rfl
 ·simp at h
theorem tdiff_any (a:Option Addr) (xs:List Itm) (c:Nat) (d1 d2 e1 e2:Int) (V l V2 m:List Fl) (w:World) (hp:PoolIn w a xs c) (ha:Asc xs) (hV:Vis xs 101 (d1,d2) [] V) (hVp:V.Perm l) (hl:AscF l) (hn:l.length<=200)
  (hV2:Vis xs 101 (e1,e2) [] V2) (hVp2:V2.Perm m) (hm:AscF m) (hn2:m.length<=200) (hpl:∀ x ∈ l,x.path.length<=1000) (hpm:∀ x ∈ m,x.path.length<=1000) :
  Calls Tryz.prog 9 #[.slice a xs.length c,.agg #[.int .u64 d1,.int .u64 d2],.agg #[.int .u64 e1,.int .u64 e2]] w (GotTd w l m):=by
 obtain ⟨x0,hx0⟩:∃ x0,x0=(w.alloc (.cells #[.int .u64 d1,.int .u64 d2] 35)).alloc (.cells #[.int .u64 e1,.int .u64 e2] 35):=⟨_,rfl⟩
 have hb0:Below w.heap.size w x0:=by rw [hx0]; exact ((Below.refl _ _).alloc (Nat.le_refl _) _).alloc (by simp) _
 have HL1:=hid (load_any a xs c d1 d2 101 V l x0 (hp.below hb0) ha hV hVp hl hn)
 have HL2:=hid (fun W (hb:Below w.heap.size w W)=>load_any a xs c e1 e2 101 V2 m W (hp.below hb) ha hV2 hVp2 hm hn2)
 have HD1:Hid (BK w.heap.size #[.int .u64 d1,.int .u64 d2] 35 x0):=hid (by rw [hx0]; exact (BK.new _ _ _).alloc _)
 have HD2:Hid (BK (w.heap.size + 1) #[.int .u64 e1,.int .u64 e2] 35 x0):=hid (by rw [hx0]; exact BK.new2 _ _ _ _)
 have HASC:=hid hl
 have HASC2:=hid hm
 have HPL:=hid hpl
 have HPM:=hid hpm
 have HB0:=hid hb0
 obtain ⟨c0,c1⟩:=HD1.out.c2
 have HX0:=hid hx0
 rw [hx0] at c0 c1 HL1
 obtain ⟨nl,hnl⟩:∃ nl,nl=l.length:=⟨_,rfl⟩
 obtain ⟨nm,hnm⟩:∃ nm,nm=m.length:=⟨_,rfl⟩
 have HNL:=hid hnl
 have HNM:=hid hnm
 unfold GotLd at HL1 HL2
 rw [<-hnl] at HL1 hn
 rw [<-hnm] at HL2 hn2
 generalize xs.length=nx at HL1 HL2 ⊢
 clear hp ha hV hVp hl hV2 hVp2 hm hpl hpm hnl hnm hx0 hb0
 go_enter Tryz.func9,Tryz.ntmps9
 go_wp2_with fail
 (with_reducible refine HL1.out.mono ?_)
 rintro e x1 ⟨ra,rc,rfl,hrow1,hb1⟩
 rw [<-HX0.out] at hrow1 hb1
 have HB1:=hid (HB0.out.trans (hb1.mono HB0.out.size))
 have HG1:=hid (own_gin layFl HNL.out hrow1)
 obtain ⟨d0,d9⟩:=(HD2.out.below hb1).c2
 have HLD2:=hid (HL2.out x1 HB1.out)
 clear hrow1 hb1 c0 c1 HL1 HL2 HX0 HD1 HD2 HB0
 go_wp2_with fail
 (with_reducible refine HLD2.out.mono ?_)
 rintro e x2 ⟨qa,qc,rfl,hrow2,hb2⟩
 have HB2:=hid (HB1.out.trans (hb2.mono HB1.out.size))
 have HG1:=hid ((HG1.out.below hb2 (Nat.le_refl _)).mono hb2.size)
 have HG2:=hid (own_gin layFl HNM.out hrow2)
 have hmm:=@run_makeMap Tryz.prog
 clear hrow2 hb2 d0 d9 HLD2 HB1
 have HI0:Hid (TdI x2 x2.heap.size 0 (chF (l.take 0) []) (x2.alloc (.map #[] 0))):=hid ⟨(MapS.made x2).eq (fun s=>by simp [chF,chO,dataF]),(Below.refl _ _).alloc (Nat.le_refl _) _,Nat.le_refl _⟩
 go_wp2_with fail
 clear hmm
 go_loopw [42] (fun i wr=>∃ k:Nat,i = .int .i64 (k:Int)/\k<=nl/\Hid (TdI x2 x2.heap.size k (chF (l.take k) []) wr)) (fun i _=>nl - (intOf i).toNat)
 case atStart=>exact ⟨0,rfl,by omega,HI0⟩
 case round=>
  clear HI0
  obtain ⟨k,rfl,hk,HI⟩:=hrel
  by_cases hlt:k < nl
  ·have hki:(k:Int) < (nl:Int):=by omega
   have hkl:k < l.length:=by rw [<-HNL.out]; exact hlt
   obtain ⟨b0,o0,hab,hbb,q0,q1⟩:=fl_cells (HG1.out.below HI.out.be (Nat.le_refl _)) hkl
   have hpb:=HPL.out _ (List.getElem_mem hkl)
   have HT:=hid (fun p=>ch1 HASC.out hkl p)
   generalize l[k]=x at q0 q1 hpb HT
   obtain ⟨P,D⟩:=x
   simp only at q0 q1 hpb HT
   subst hab
   obtain ⟨v1,hv1⟩:∃ v1,v1=wr.alloc (.cells #[.string ⟨P.toArray⟩,.string ⟨D.toArray⟩] 55):=⟨_,rfl⟩
   have hb1:Below wr.heap.size wr v1:=by rw [hv1]; exact (Below.refl _ _).alloc (Nat.le_refl _) _
   have hK1:BK wr.heap.size #[.string ⟨P.toArray⟩,.string ⟨D.toArray⟩] 55 v1:=by rw [hv1]; exact BK.new _ _ _
   obtain ⟨c0,c1⟩:=hK1.c2
   obtain ⟨W3,hput,hi3⟩:=(HI.out.below hb1).put (by omega) (by omega) _ HT.out
   simp only [fcV1,mkFc,Option.isSome_some,Option.getD_some,Option.isSome_none,Option.getD_none] at hput
   have HI3:=hid hi3
   rw [hv1] at c0 c1 hput
   clear hv1 hb1 hK1 hi3 HI HT
   go_wp2_with fail
   go_roundw
   case rel=>exact ⟨k + 1,by go_num,by omega,HI3⟩
   case measure=>simp [intOf] <;> omega
  ·have hki:¬ (k:Int) < (nl:Int):=by omega
   obtain ⟨x3,hx3⟩:∃ x3,x3=wr:=⟨_,rfl⟩
   rw [<-hx3] at HI ⊢
   clear hx3
   have hknl:k=nl:=by omega
   have HI0:Hid (TdI x2 x2.heap.size (k + 0) (chF l (m.take 0)) x3):=hid (by have:=HI.out; rwa [List.take_of_length_le (by have:=HNL.out; omega)] at this)
   clear HI
   go_wp2_with fail
   go_loopw [57] (fun i wr=>∃ j:Nat,i = .int .i64 (j:Int)/\j<=nm/\Hid (TdI x2 x2.heap.size (k + j) (chF l (m.take j)) wr)) (fun i _=>nm - (intOf i).toNat)
   case atStart=>exact ⟨0,rfl,by omega,HI0⟩
   case round=>
    clear HI0
    obtain ⟨j,rfl,hj,HI⟩:=hrel
    by_cases hlt2:j < nm
    ·have hji:(j:Int) < (nm:Int):=by omega
     have hjl:j < m.length:=by rw [<-HNM.out]; exact hlt2
     obtain ⟨b0,o0,hab,hbb,q0,q1⟩:=fl_cells (HG2.out.below HI.out.be (Nat.le_refl _)) hjl
     have hpb:=HPM.out _ (List.getElem_mem hjl)
     have HT:=hid (fun p=>ch2 (l:=l) HASC2.out hjl p)
     have hgt:=ch_get (l:=l) HASC2.out hjl
     generalize m[j]=x at q0 q1 hpb HT hgt
     obtain ⟨P,D⟩:=x
     simp only at q0 q1 hpb HT hgt
     subst hab
     obtain ⟨v1,hv1⟩:∃ v1,v1=wr.alloc (.cells #[.string ⟨P.toArray⟩,.string ⟨D.toArray⟩] 55):=⟨_,rfl⟩
     have hb1:Below wr.heap.size wr v1:=by rw [hv1]; exact (Below.refl _ _).alloc (Nat.le_refl _) _
     have hK1:BK wr.heap.size #[.string ⟨P.toArray⟩,.string ⟨D.toArray⟩] 55 v1:=by rw [hv1]; exact BK.new _ _ _
     obtain ⟨c0,c1⟩:=hK1.c2
     have hlook:=(HI.out.below hb1).ma.look Tryz.underlying69 (zeroFcT v1) (s:=P) (by omega)
     rw [hgt] at hlook
     obtain ⟨hz1,hz2⟩:=chZ_eq l P
     generalize chZ l P=z at hlook hz1 hz2
     obtain ⟨zp,zo,zn,zs,zt⟩:=z
     simp only [fcV1] at hlook
     simp only at hz1 hz2
     obtain ⟨v2,hv2⟩:∃ v2,v2=v1.alloc (.cells #[.string ⟨zp.toArray⟩,.bool zo,.bool zn,.string ⟨zs.toArray⟩,.string ⟨zt.toArray⟩] 42):=⟨_,rfl⟩
     have hb2:Below v1.heap.size v1 v2:=by rw [hv2]; exact (Below.refl _ _).alloc (Nat.le_refl _) _
     have HK1:=hid (hK1.below hb2)
     have HK2:Hid (BK v1.heap.size #[.string ⟨zp.toArray⟩,.bool zo,.bool zn,.string ⟨zs.toArray⟩,.string ⟨zt.toArray⟩] 42 v2):=hid (by rw [hv2]; exact BK.new _ _ _)
     have HI2:=hid ((HI.out.below hb1).below hb2)
     obtain ⟨g0,g1⟩:=HK1.out.c2
     obtain ⟨f0,f1,f2,f3,f4⟩:=HK2.out.c5
     have hr0:=HK2.out.frozen 0
     have hr2:=HK2.out.frozen 2
     have hr4:=HK2.out.frozen 4
     have hzz:v1.heap.size=wr.heap.size + 1:=by rw [hv1]; simp
     rw [hv2,hv1] at g0 g1 f0 f1 f2 f3 f4 hr0 hr2 hr4
     rw [hv1] at hlook c0 c1
     simp only [World.size_alloc] at f0 f1 f2 f3 f4 hr0 hr2 hr4
     have HV1:=hid hv1
     have HV2:=hid hv2
     have hmx:Tryz.prog.follows .mixedOrders=true:=by kernel_rfl
     have HI1:=hid (HI.out.below hb1)
     have HK0:=hid hK1
     clear hv1 hv2 hb1 hb2 hK1 HI
     go_wp2_with fail
     go_region
     clear c0 c1 g0 g1 f0 f1 f2 f3 f4 hr0 hr2 hr4 hmx hlook HK1 HK2 HI2 HV2
     generalize dataF l P=o at HT hz1 hz2 ⊢
     obtain ⟨v3,hv3⟩:∃ v3,v3=(v1.alloc (.cells #[.string ⟨P.toArray⟩,.bool o.isSome,.bool true,.string ⟨(o.getD []).toArray⟩,.string ⟨D.toArray⟩] 42)).drew:=⟨_,rfl⟩
     have hb3:Below v1.heap.size v1 v3:=by rw [hv3]; exact ((Below.refl _ _).alloc (Nat.le_refl _) _).drew
     have hk3:BK v1.heap.size #[.string ⟨P.toArray⟩,.bool o.isSome,.bool true,.string ⟨(o.getD []).toArray⟩,.string ⟨D.toArray⟩] 42 v3:=by rw [hv3]; exact BK.new _ _ _
     obtain ⟨g0,g1⟩:=(HK0.out.below hb3).c2
     obtain ⟨f0,f1,f2,f3,f4⟩:=hk3.c5
     obtain ⟨W3,hput,hi3⟩:=(HI1.out.below hb3).put (by omega) (by omega) _ HT.out
     simp only [fcV1,mkFc,Option.isSome_some,Option.getD_some] at hput
     have HI3:Hid (TdI x2 x2.heap.size (k + (j + 1)) (chF l (m.take (j + 1))) W3):=hid hi3
     rw [hzz] at f0 f1 f2 f3 f4
     rw [<-HV1.out,<-hv3]
     clear hv3 hb3 hk3 hi3 HV1 HI1 HK0 HT hz1 hz2 hzz
     go_wp2_with fail
     go_roundw
     case rel=>exact ⟨j + 1,by go_num,by omega,HI3⟩
     case measure=>simp [intOf] <;> omega
    ·have hji:¬ (j:Int) < (nm:Int):=by omega
     obtain ⟨x4,hx4⟩:∃ x4,x4=wr:=⟨_,rfl⟩
     rw [<-hx4] at HI ⊢
     clear hx4
     have HI4:Hid (TdI x2 x2.heap.size (k + j) (chF l m) x4):=hid (by have:=HI.out; rwa [List.take_of_length_le (by have:=HNM.out; omega)] at this)
     have HKA:=hid (keysC_any HI4.out.ma)
     clear HI
     go_wp2_with fail
     (with_reducible refine HKA.out.mono ?_)
     rintro e x5 ⟨rfl,hx5⟩
     have hb5:Below x4.heap.size x4 x5:=by rw [hx5]; exact (Below.refl _ _).alloc (Nat.le_refl _) _
     have hk5:BK x4.heap.size #[.map (some x2.heap.size)] 69 x5:=by rw [hx5]; exact BK.new _ _ _
     have HI5:=hid (HI4.out.below hb5)
     obtain ⟨Sp,hsq⟩:=keysC_stops HI5.out.ma (B:=x4.heap.size) hk5.lt hk5.c1
     have HSO:=hid (sorted_any (base:=x5.heap.size) x5 (enters_of Tryz.func59 (by kernel_rfl) rfl) hsq (Nat.le_refl _) (by omega) (fun ss hs=>⟨hs.1,by
      have h1:=nd_len hs.1 (fun x hx=>chF_mem ((hs.2 x).1 hx))
      have h2:=HNL.out
      have h3:=HNM.out
      simp only [List.length_append,List.length_map] at h1
      omega⟩))
     clear hx5 hb5 hk5 hsq HKA HI4
     go_wp2_with fail
     (with_reducible refine HSO.out.mono ?_)
     rintro e x6 ⟨na,nc,ss,ns,rfl,hss,hprm,hrow,hb6⟩
     have HNS:Hid (∀ p ∈ ns,(chF l m p).isSome=true):=hid (fun p hp=>(hss.2 p).1 (hprm.mem_iff.2 hp))
     have hnn:ns.length<=400:=by
      have h1:=nd_len hss.1 (fun x hx=>chF_mem ((hss.2 x).1 hx))
      have h2:=HNL.out
      have h3:=HNM.out
      rw [hprm.length_eq] at h1
      simp only [List.length_append,List.length_map] at h1
      omega
     have HI6:=hid (HI5.out.below hb6)
     rw [<-gcs_st] at hrow
     have HR6:=hid (own_gin laySt rfl hrow)
     have HPN:Hid (∀ p ∈ ns,p.length<=1000):=hid (fun p hp=>by
      have h1:=chF_mem (HNS.out p hp)
      simp only [List.mem_append,List.mem_map] at h1
      rcases h1 with ⟨x,hx,e⟩ | ⟨x,hx,e⟩
      ·rw [<-e]; exact HPL.out x hx
      ·rw [<-e]; exact HPM.out x hx)
     obtain ⟨nn,hnn2⟩:∃ nn,nn=ns.length:=⟨_,rfl⟩
     have HNN:=hid hnn2
     rw [<-hnn2] at hnn ⊢
     clear hss hprm hrow hb6 hnn2 HSO HI5
     go_wp2_with fail
     go_loopw [17,81] (fun v i wr=>∃ (q:Nat) (out:List Fc),i = .int .i64 (q:Int)/\q<=nn/\out.length<=q/\Hid (∀ x ∈ out,∃ p,x=mkFc p (dataF l p) (dataF m p)/\dataF l p ≠ dataF m p)/\Hid (DfI fcCs 5 42 x6 out v wr)) (fun _ i _=>nn - (intOf i).toNat)
     case atStart=>exact ⟨0,[],rfl,by omega,by simp,hid (by simp),hid ⟨World.ownsRow_nil _ _ _ _,Below.refl _ _⟩⟩
     case round=>
      obtain ⟨q,out,rfl,hq,hol,HO,HD⟩:=hrel
      by_cases hlt3:q < nn
      ·have hqi:(q:Int) < (nn:Int):=by omega
       have hql:q < ns.length:=by rw [<-HNN.out]; exact hlt3
       obtain ⟨b0,o0,hab,hbb,hcc⟩:=(HR6.out.below HD.out.be (Nat.le_refl _)) q hql
       have q0:=hcc 0 _ rfl
       have hpb:=HPN.out _ (List.getElem_mem hql)
       have hlook:=(HI6.out.below HD.out.be).ma.look Tryz.underlying69 (zeroFcT wr) (s:=ns[q]) (by omega)
       rw [chF_at (HNS.out _ (List.getElem_mem hql))] at hlook
       generalize ns[q]=P at q0 hpb hlook
       simp only [Nat.add_zero,Nat.mul_one] at q0
       subst hab
       have HX:Hid (dataF l P ≠ dataF m P->∀ x ∈ out ++ [mkFc P (dataF l P) (dataF m P)],∃ p,x=mkFc p (dataF l p) (dataF m p)/\dataF l p ≠ dataF m p):=hid (fun hne x hx=>by
        rcases List.mem_append.1 hx with hx | hx
        ·exact HO.out x hx
        ·obtain rfl:=List.mem_singleton.1 hx
         exact ⟨P,rfl,hne⟩)
       generalize dataF l P=o at hlook HX
       generalize dataF m P=n at hlook HX
       simp only [fcV1,mkFc] at hlook
       obtain ⟨v1,hv1⟩:∃ v1,v1=wr.alloc (.cells #[.string ⟨P.toArray⟩,.bool o.isSome,.bool n.isSome,.string ⟨(o.getD []).toArray⟩,.string ⟨(n.getD []).toArray⟩] 42):=⟨_,rfl⟩
       have hb1:Below wr.heap.size wr v1:=by rw [hv1]; exact (Below.refl _ _).alloc (Nat.le_refl _) _
       have hk1:BK wr.heap.size #[.string ⟨P.toArray⟩,.bool o.isSome,.bool n.isSome,.string ⟨(o.getD []).toArray⟩,.string ⟨(n.getD []).toArray⟩] 42 v1:=by rw [hv1]; exact BK.new _ _ _
       have HD1:=hid (HD.out.below hb1)
       obtain ⟨f0,f1,f2,f3,f4⟩:=hk1.c5
       have HV1:=hid hv1
       have HAD:=hid (HD1.out.fc (mkFc P o n) (by omega))
       have HADD:Hid ((o.isSome ≠ n.isSome\/o.getD [] ≠ n.getD [])->∃ v' W',Hid ((Builtin.append_ #[38,38] 38 #[u17,.slice (some ⟨v1.heap.size,0,none⟩) 1 1]).run Tryz.prog (v1.alloc (.cells #[.string ⟨P.toArray⟩,.bool o.isSome,.bool n.isSome,.string ⟨(o.getD []).toArray⟩,.string ⟨(n.getD []).toArray⟩] 42)) = .ok v' W')/\∃ out',out'.length<=q + 1/\(∀ x ∈ out',∃ p,x=mkFc p (dataF l p) (dataF m p)/\dataF l p ≠ dataF m p)/\DfI fcCs 5 42 x6 out' v' W'):=hid (fun hne=>by
        obtain ⟨v',W',h1,h2⟩:=HAD.out
        exact ⟨v',W',h1,_,by simp; omega,HX.out (fun e=>by subst e; simp at hne),h2⟩)
       rw [hv1] at f0 f1 f2 f3 f4
       clear hb1 hk1 HAD HX HD HV1
       have HV1:=hid hv1
       have HLK:=hid hlook
       clear hv1 hlook
       generalize o.isSome=bo at HADD f1 HV1 HLK
       generalize n.isSome=bn at HADD f2 HV1 HLK
       generalize o.getD []=so at HADD f3 HV1 HLK
       generalize n.getD []=sn at HADD f4 HV1 HLK
       have hv1:=HV1.out
       have hlook:=HLK.out
       clear HV1 HLK
       by_cases hbe:bo=bn
       ·have hbe2:(bo == bn)=true:=by simpa using hbe
        by_cases hse:so=sn
        ·have hse2:(so == sn)=true:=by simpa using hse
         rw [hv1] at HD1
         clear hv1 HADD hbe hse
         go_wp2_with fail
         go_roundw
         case rel=>exact ⟨q + 1,out,by go_num,by omega,by omega,HO,HD1⟩
         case measure=>simp [intOf] <;> omega
        ·have hse2:(so == sn)=false:=by simpa using hse
         obtain ⟨v',W',hrun,out',ho1,ho2,ho3⟩:=HADD.out (.inr hse)
         have HO3:=hid ho2
         have HD3:=hid ho3
         have HRUN:=hid hrun.out
         rw [hv1,World.size_alloc] at HRUN
         clear ho2 ho3 hrun HADD hv1 hbe
         go_wp2_with (at_builtin; refine Lib.wpList_append_run _ rfl _ _ _ _ rfl _ _ rfl rfl _ _ HRUN.out ?_)
         go_roundw
         case rel=>exact ⟨q + 1,out',by go_num,by omega,ho1,HO3,HD3⟩
         case measure=>simp [intOf] <;> omega
       ·have hbe2:(bo == bn)=false:=by simpa using hbe
        obtain ⟨v',W',hrun,out',ho1,ho2,ho3⟩:=HADD.out (.inl hbe)
        have HO3:=hid ho2
        have HD3:=hid ho3
        have HRUN:=hid hrun.out
        rw [hv1,World.size_alloc] at HRUN
        clear ho2 ho3 hrun HADD hv1 hbe
        go_wp2_with (at_builtin; refine Lib.wpList_append_run _ rfl _ _ _ _ rfl _ _ rfl rfl _ _ HRUN.out ?_)
        go_roundw
        case rel=>exact ⟨q + 1,out',by go_num,by omega,ho1,HO3,HD3⟩
        case measure=>simp [intOf] <;> omega
      ·have hqi:¬ (q:Int) < (nn:Int):=by omega
       have HG:=hid (HD.out)
       obtain ⟨va,vc,rfl,_⟩:=ownsRow_sliceN HG.out.ow
       have HG2:=hid (own_gin layFc rfl HG.out.ow)
       have HB9:=hid (HB2.out.trans ((HI6.out.be.trans (HG.out.be.mono HI6.out.be.size)).mono HB2.out.size))
       clear HD HG
       go_wp2_with fail
       go_ret2
       exact ⟨HB9.out,va,vc,out,rfl,HG2.out,by omega,HO.out⟩
end Go.Proofs.YtdedfkljaeloiaaGreatDoor
