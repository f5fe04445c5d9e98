/- negotiate.below. -/
import Derived.Test.YtfdahmicigpnoaaGreatNeTs
import Derived.Test.YtfdahmicigpnoaaGreatNeVa
set_option maxRecDepth 100000
set_option maxHeartbeats 16000000
open Go.Lib (hid)
namespace Go.Proofs.YtfdahmicigpnoaaGreat
open Go.RowKit Go.Shelf
set_option linter.unusedVariables false
theorem slsD_one {W:World} {bb:Nat} {a:Option Addr} {ds:List (Int × Int)} {c:Nat} (hk:BK bb #[.slice a ds.length c] 24 W) (hd:Digs W.heap.size W a ds):SlsD W.heap.size W bb [⟨a,ds,c⟩]:=by
 refine ⟨hk.lt,fun i hi=>?_,fun i hi=>?_⟩
 ·obtain rfl:i=0:=by simp at hi; omega
  rw [hk.cell]; rfl
 ·obtain rfl:i=0:=by simp at hi; omega
  exact hd
theorem slsD_two {W:World} {bb:Nat} {a a':Option Addr} {ds es:List (Int × Int)} {c c':Nat} (hk:BK bb #[.slice a ds.length c,.slice a' es.length c'] 24 W) (hd:Digs W.heap.size W a ds) (he:Digs W.heap.size W a' es):SlsD W.heap.size W bb [⟨a,ds,c⟩,⟨a',es,c'⟩]:=by
 refine ⟨hk.lt,fun i hi=>?_,fun i hi=>?_⟩
 ·rcases (by simp at hi; omega:i=0\/i=1) with rfl | rfl
  ·rw [hk.cell]; rfl
  ·rw [hk.cell]; rfl
 ·rcases (by simp at hi; omega:i=0\/i=1) with rfl | rfl
  ·exact hd
  ·exact he
theorem slsD_three {W:World} {bb:Nat} {a a' a'':Option Addr} {ds es fs:List (Int × Int)} {c c' c'':Nat} (hk:BK bb #[.slice a ds.length c,.slice a' es.length c',.slice a'' fs.length c''] 24 W) (hd:Digs W.heap.size W a ds) (he:Digs W.heap.size W a' es) (hf:Digs W.heap.size W a'' fs):SlsD W.heap.size W bb [⟨a,ds,c⟩,⟨a',es,c'⟩,⟨a'',fs,c''⟩]:=by
 refine ⟨hk.lt,fun i hi=>?_,fun i hi=>?_⟩
 ·rcases (by simp at hi; omega:i=0\/i=1\/i=2) with rfl | rfl | rfl
  ·rw [hk.cell]; rfl
  ·rw [hk.cell]; rfl
  ·rw [hk.cell]; rfl
 ·rcases (by simp at hi; omega:i=0\/i=1\/i=2) with rfl | rfl | rfl
  ·exact hd
  ·exact he
  ·exact hf
def parsS (xs:List Itm) (l:List (Int × Int)):List (Int × Int):=l.flatMap fun c=>(commitS xs c).1.pars
theorem parsS_take (xs:List Itm) {l:List (Int × Int)} {k:Nat} (h:k < l.length):parsS xs (l.take (k + 1))=parsS xs (l.take k) ++ (commitS xs l[k]).1.pars:=by
 unfold parsS
 rw [List.take_succ_eq_append_getElem h,List.flatMap_append]; simp
def GotBel (xs:List Itm) (w:World) (l:List (Int × Int)) (e:Ending) (w':World):Prop:=∃ v b,e = .returned (.tuple #[v,.bool b])/\(b=true ↔ ∀ c ∈ l,Kn xs c)/\(b=true->∃ mb ds,v = .map (some mb)/\SetV mb ds w'/\(∀ d,d ∈ ds ↔ Bel xs l d)/\w.heap.size<=mb/\(ds.length:Int)<=500)/\Below w.heap.size w w'
theorem GotBel.no {xs:List Itm} {w w':World} {l:List (Int × Int)} (v:Value) (h:¬ ∀ c ∈ l,Kn xs c) (hb:Below w.heap.size w w'):GotBel xs w l (.returned (.tuple #[v,.bool false])) w':=
 ⟨v,false,rfl,⟨fun e=>(by cases e),fun e=>absurd e h⟩,fun e=>(by cases e),hb⟩
theorem GotBel.yes {xs:List Itm} {w w':World} {l ds:List (Int × Int)} {mb:Nat} (h:∀ c ∈ l,Kn xs c) (h1:SetV mb ds w') (h2:∀ d,d ∈ ds ↔ Bel xs l d) (h3:w.heap.size<=mb) (h4:(ds.length:Int)<=500) (hb:Below w.heap.size w w'):GotBel xs w l (.returned (.tuple #[.map (some mb),.bool true])) w':=
 ⟨_,true,rfl,⟨fun _=>h,fun _=>rfl⟩,fun _=>⟨mb,ds,rfl,h1,h2,h3,h4⟩,hb⟩
theorem bel_pars {xs:List Itm} {l:List (Int × Int)} (hc:∀ c ∈ l,(commitS xs c).2=0):((ancS xs (parsS xs l)).2=0 ↔ ∀ c ∈ l,Kn xs c)/\((ancS xs (parsS xs l)).2=0->∀ d,d ∈ (ancS xs (parsS xs l)).1 ↔ Bel xs l d):=by
 have hmem:∀ p,p ∈ parsS xs l ↔ ∃ c ∈ l,p ∈ (commitS xs c).1.pars:=fun p=>by unfold parsS; rw [List.mem_flatMap]
 refine ⟨?_,fun h d=>?_⟩
 ·rw [anc_knE]
  constructor
  ·intro h c hcl
   exact kn_iff.2 ⟨hc c hcl,fun p hp=>h p ((hmem p).2 ⟨c,hcl,hp⟩)⟩
  ·intro h p hp
   obtain ⟨c,hcl,hpc⟩:=(hmem p).1 hp
   exact (h c hcl).par hpc
 ·rw [(anc_kn (anc_knE.1 h)).2]
  unfold Bel
  constructor
  ·rintro ⟨p,hp,h1⟩
   obtain ⟨c,hcl,hpc⟩:=(hmem p).1 hp
   exact ⟨c,hcl,p,hpc,h1⟩
  ·rintro ⟨c,hcl,p,hpc,h1⟩
   exact ⟨p,(hmem p).2 ⟨c,hcl,hpc⟩,h1⟩
theorem below_any (a:Option Addr) (xs:List Itm) (c:Nat) (la:Option Addr) (l:List (Int × Int)) (lc:Nat) (w:World) (hp:PoolIn w a xs c) (hA:Asc xs) (hac:AcyS xs) (hxl:(xs.length:Int)<=500) (hl:Digs w.heap.size w la l) (hll:(l.length:Int)<=45) :
  Calls Tryz.prog 90 #[.slice a xs.length c,.slice la l.length lc] w (GotBel xs w l):=by
 have HCO:=hid (fun W p q (hW:Below w.heap.size w W)=>commit_any a xs c p q W (hp.below hW) hA)
 have HPL:Hid (∀ d,(commitS xs d).2=0->(commitS xs d).1.pars.length<=200/\∀ p ∈ (commitS xs d).1.pars,OkD p):=hid (fun d h=>⟨pars_le h,pars_okD h⟩)
 have HAN:=hid (fun W ha hs hc (hW:Below w.heap.size w W) (hd:Digs W.heap.size W ha hs) (hok:∀ d ∈ hs,OkD d) (hh:(hs.length:Int)<=10000)=>ancestors_any a xs c ha hs hc W (hp.below hW) hA hac hd hok hxl hh)
 have HBP:=hid (fun (hc:∀ c ∈ l,(commitS xs c).2=0)=>bel_pars hc)
 have HAL:Hid (∀ hs:List (Int × Int),(∀ d ∈ hs,OkD d)->((ancS xs hs).1.length:Int)<=500/\∀ d ∈ (ancS xs hs).1,OkD d):=hid (fun hs hok=>by
  by_cases h:(visS xs hs []).2=0
  ·have hf:=vis_facts h hok
   have e:(ancS xs hs).1=sortH (depS xs) (visS xs hs []).1:=by unfold ancS; rw [if_neg (by simpa using h)]
   rw [e]
   exact ⟨by rw [(sortH_perm _ _).length_eq]; have:=hf.le; omega,fun d hd=>hf.ok d ((sortH_perm _ _).mem_iff.1 hd)⟩
  ·rw [ancS_err h]; simp)
 have HL:=hid hl
 obtain ⟨n,hnn⟩:∃ n,n=l.length:=⟨_,rfl⟩
 have HN:=hid hnn
 rw [<-hnn] at hll ⊢
 generalize xs.length=nx at HCO HAN ⊢
 clear hl hnn hp hA hac hxl
 go_enter Tryz.func90,Tryz.ntmps90
 go_wp2_with fail
 go_loopw [6,15] (fun v i wr=>∃ k:Nat,k<=n/\i = .int .i64 k/\Hid (wr.ownsRow w.heap.size 41 2 v (parsS xs (l.take k)).length (dcells (parsS xs (l.take k))))/\Hid ((∀ c ∈ l.take k,(commitS xs c).2=0)/\(parsS xs (l.take k)).length<=200 * k/\∀ p ∈ parsS xs (l.take k),OkD p)/\Hid (Below w.heap.size w wr)) (fun _ i _=>n - (intOf i).toNat)
 case atStart=>exact ⟨0,by omega,rfl,hid (World.ownsRow_nil _ _ _ _),hid ⟨by simp,by simp [parsS],by simp [parsS]⟩,hid (Below.refl _ _)⟩
 case round=>
  obtain ⟨k,hk,rfl,HO,HF,HB⟩:=hrel
  obtain ⟨oa,oc,rfl,hoc⟩:=ownsRow_sliceN HO.out
  by_cases hkn:k < n
  ·have hki:(k:Int) < (n:Int):=by omega
   have h1:k < l.length:=by have:=HN.out; omega
   obtain ⟨b0,of0,haa,hb0,q0,q1⟩:=(HL.out.ahead HB.out) k h1
   have HLx:=HL
   subst haa
   have HPT:=hid (parsS_take xs h1)
   have HLT:Hid (l.take (k + 1)=l.take k ++ [l[k]]):=hid (List.take_succ_eq_append_getElem h1)
   have HMM:Hid (l[k] ∈ l):=hid (List.getElem_mem h1)
   generalize l[k]=d at q0 q1 HPT HLT HMM
   obtain ⟨d1,d2⟩:=d
   simp only at q0 q1
   obtain ⟨v,hv⟩:∃ v,v=wr.alloc (.cells #[.int .u64 d1,.int .u64 d2] 41):=⟨_,rfl⟩
   have hbv:Below wr.heap.size wr v:=by rw [hv]; exact (Below.refl _ _).alloc (Nat.le_refl _) _
   have HBv:=hid (HB.out.trans (hbv.mono HB.out.size))
   have HOv:=hid (own_below HO.out hbv)
   have HC:=hid (HCO.out v d1 d2 HBv.out)
   have HPD:=hid (HPL.out (d1,d2))
   obtain ⟨CR,hCR⟩:∃ CR,CR=commitS xs (d1,d2):=⟨_,rfl⟩
   have HCR:=hid hCR
   rw [<-hCR] at HC HPT HPD
   rw [hv] at HC
   have HV:=hid hv
   have hvz:v.heap.size=wr.heap.size + 1:=by rw [hv]; simp
   obtain ⟨⟨kind,data,ents,⟨t1,t2⟩,pars,author,time,msg⟩,er⟩:=CR
   simp only at HC HPT HPD
   clear hv hbv HB HO hCR
   go_wp2_with fail
   (with_reducible refine (HC.out).mono ?_)
   rintro e u ⟨ea,ec,pa,pc,rfl,hob,hb⟩
   rw [<-HV.out] at hob hb
   simp only [Ob.val]
   have HPO:=hid hob.po
   obtain ⟨np,hnp⟩:∃ n,n=pars.length:=⟨_,rfl⟩
   rw [<-hnp] at ⊢
   have HNP:=hid hnp
   generalize ents.length=ne
   simp only at HPO
   rw [<-hnp] at HPO
   have HB2:=hid (HBv.out.trans (hb.mono HBv.out.size))
   have HO2:=hid (own_below HOv.out hb)
   have hzu:v.heap.size<=u.heap.size:=hb.size
   obtain ⟨v2,hv2⟩:∃ v2,v2=u.alloc (.cells #[.int .i64 kind,.string ⟨data.toArray⟩,.slice ea ne ec,.int .u64 t1,.int .u64 t2,.slice pa np pc,.string ⟨author.toArray⟩,.int .i64 time,.string ⟨msg.toArray⟩] 56):=⟨_,rfl⟩
   have hbv:Below u.heap.size u v2:=by rw [hv2]; exact (Below.refl _ _).alloc (Nat.le_refl _) _
   have HB3:=hid (HB2.out.trans (hbv.mono HB2.out.size))
   have HO3:=hid (own_below HO2.out hbv)
   have HP3:=hid (own_below HPO.out hbv)
   have HKO:Hid (BK u.heap.size #[.int .i64 kind,.string ⟨data.toArray⟩,.slice ea ne ec,.int .u64 t1,.int .u64 t2,.slice pa np pc,.string ⟨author.toArray⟩,.int .i64 time,.string ⟨msg.toArray⟩] 56 v2):=hid (by rw [hv2]; exact BK.new _ _ _)
   have HV2:=hid hv2
   clear hob hb hbv hv2 hnp HC HBv HOv HV HPO HB2 HO2 q0 q1
   by_cases he:er=0
   ·subst he
    obtain ⟨hpl,hpok⟩:=HPD.out rfl
    have HPOK:=hid hpok
    have hplen:(parsS xs (l.take k)).length<=200 * k:=HF.out.2.1
    obtain ⟨v',W',hrun,hown',hg',_⟩:=append_digs v2 w.heap.size 24 (.slice oa (parsS xs (l.take k)).length oc) (parsS xs (l.take k)) HO3.out pa pars pc (own_digs HNP.out HP3.out) (by omega) HB3.out.size
    have HB4:Hid (Below w.heap.size w W'):=hid (below_own HB3.out HO3.out hg' (Nat.le_refl _))
    have HO4:Hid (W'.ownsRow w.heap.size 41 2 v' (parsS xs (l.take (k + 1))).length (dcells (parsS xs (l.take (k + 1))))):=hid (by rw [HPT.out]; exact hown')
    have HF4:Hid ((∀ c ∈ l.take (k + 1),(commitS xs c).2=0)/\(parsS xs (l.take (k + 1))).length<=200 * (k + 1)/\∀ p ∈ parsS xs (l.take (k + 1)),OkD p):=hid (by
     rw [HPT.out,HLT.out]
     refine ⟨fun c hc=>?_,by rw [List.length_append]; omega,fun p hp=>?_⟩
     ·rcases List.mem_append.1 hc with h | h
      ·exact HF.out.1 c h
      ·rw [List.mem_singleton.1 h,<-HCR.out]
     ·rcases List.mem_append.1 hp with h | h
      ·exact HF.out.2.2 p h
      ·exact HPOK.out p h)
    rw [<-HNP.out,HV2.out] at hrun
    have HRUN:=hid hrun
    have k5:v2.cell? ⟨u.heap.size,5,none⟩=some (.slice pa np pc):=by rw [HKO.out.cell]; rfl
    rw [HV2.out] at k5
    clear hrun hown' hg' HB3 HO3 HP3 HKO HV2 HF HPD
    generalize (parsS xs (l.take k)).length=pl at HRUN hoc hplen ⊢
    go_wp2_with (at_builtin; refine Lib.wpList_append_run _ rfl _ _ _ _ rfl _ _ rfl rfl _ _ HRUN.out ?_)
    go_roundw
    case rel=>exact ⟨k + 1,by omega,by go_num,HO4,HF4,HB4⟩
    case measure=>simp [intOf] <;> omega
   ·have hee:(er != 0)=true:=by simpa using he
    have HNO:Hid (¬ ∀ c ∈ l,Kn xs c):=hid (fun h=>he (by
     have:=(h _ HMM.out).com
     rwa [<-HCR.out] at this))
    clear HPD
    generalize (parsS xs (l.take k)).length=pl
    go_wp2_with fail
    go_ret2
    rw [<-HV2.out]
    exact GotBel.no _ HNO.out HB3.out
  ·have hki:¬ (k:Int) < (n:Int):=by omega
   have htk:l.take k=l:=List.take_of_length_le (by have:=HN.out; omega)
   rw [htk] at HO HF
   rw [htk]
   obtain ⟨hc1,hc2,hc3⟩:=HF.out
   have HBQ:=hid (HBP.out hc1)
   have HAQ:=hid (HAL.out _ hc3)
   have HC:=hid (HAN.out wr oa (parsS xs l) oc HB.out (ownsRow_digs HO.out) hc3 (by omega))
   clear htk hc1 hc2 hc3 HF HAN HCO HAL HBP
   generalize ancS xs (parsS xs l)=AR at HC HBQ HAQ
   obtain ⟨an,ea⟩:=AR
   simp only at HC HBQ HAQ
   generalize (parsS xs l).length=pl at HC hoc ⊢
   go_wp2_with fail
   (with_reducible refine (HC.out).mono ?_)
   rintro e u ⟨va,vc,rfl,hown,hb⟩
   simp only at hown ⊢
   have HB2:=hid (HB.out.trans (hb.mono HB.out.size))
   have HD2:=hid (ownsRow_digs hown)
   obtain ⟨v2,hv2⟩:∃ v2,v2=u.alloc (.cells #[.slice va an.length vc] 24):=⟨_,rfl⟩
   have hbv:Below u.heap.size u v2:=by rw [hv2]; exact (Below.refl _ _).alloc (Nat.le_refl _) _
   have HB3:=hid (HB2.out.trans (hbv.mono HB2.out.size))
   have HTS:=hid (toSet_any u.heap.size 1 [⟨va,an,vc⟩] v2 (slsD_one (by rw [hv2]; exact BK.new _ _ _) (HD2.out.ahead hbv)) (by simpa [allD] using HAQ.out.2) (by have:=HAQ.out.1; simp [allD]; omega) (by simp))
   have hall:allD [⟨va,an,vc⟩]=an:=by simp [allD]
   rw [hall,hv2] at HTS
   simp only [List.length_cons,List.length_nil,Nat.zero_add] at HTS
   have HV2:=hid hv2
   have hanl:=HAQ.out.1
   clear hown hb hbv hv2 hall HC HB2 HD2 HO HB
   generalize an.length=al at HTS hanl HV2 ⊢
   go_wp2_with fail
   (with_reducible refine (HTS.out).mono ?_)
   rintro e u3 ⟨mb,rfl,hs,hmb,hb⟩
   rw [<-HV2.out] at hmb hb
   have HB4:=hid (HB3.out.trans (hb.mono HB3.out.size))
   have HS4:=hid hs
   have hmw:w.heap.size<=mb:=by have:=HB3.out.size; omega
   clear hs hb HTS HV2 HB3 hmb
   by_cases hea:ea=0
   ·subst hea
    have HX:=hid (GotBel.yes (HBQ.out.1.1 rfl) HS4.out (HBQ.out.2 rfl) hmw HAQ.out.1 HB4.out)
    clear HBQ HAQ HS4
    go_wp2_with fail
    go_ret2
    exact HX.out
   ·have hee:(ea == 0)=false:=by simpa using hea
    have HX:=hid (GotBel.no (.map (some mb)) (fun h=>hea (HBQ.out.1.2 h)) HB4.out)
    clear HBQ HAQ HS4 hea
    go_wp2_with fail
    go_ret2
    exact HX.out
end Go.Proofs.YtfdahmicigpnoaaGreat
