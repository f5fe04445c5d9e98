/- Joined texts: HiRa, HiRd, HiRe, HiRf, HiRg, HiRh. -/
import Derived.Test.YtfdahmicigpnoaaGreatK12
import Derived.Test.YtfdahmicigpnoaaGreatK10
import Derived.Test.YtfdahmicigpnoaaGreatK11
/- The reference's all; rows of numbers. -/
set_option maxRecDepth 100000
set_option maxHeartbeats 16000000
open Go.Lib (hid)
namespace Go.Proofs.YtfdahmicigpnoaaGreat
open Go.RowKit Go.Shelf
set_option linter.unusedVariables false
theorem infoIntN:(Tryz.prog.info? 3).map (fun i=>(i.zero,i.size,i.bytes))=some (some (.int .i64 0),1,8):=by kernel_rfl
def ncells (ns:List Nat):List Value:=ns.map fun (n:Nat)=>Value.int .i64 (n:Int)
def Nats (B:Nat) (W:World) (a:Option Addr) (ns:List Nat):Prop:=∀ i (h:i < ns.length),∃ b off,a=some ⟨b,off,none⟩/\b < B/\W.cell? ⟨b,off + i,none⟩=some (.int .i64 (ns[i]:Int))
theorem Nats.ahead {w W:World} {a:Option Addr} {ns:List Nat} (h:Nats w.heap.size w a ns) (hb:Below w.heap.size w W):Nats W.heap.size W a ns:=by
 intro i hi
 obtain ⟨b,off,e,hlt,hc⟩:=h i hi
 exact ⟨b,off,e,Nat.lt_of_lt_of_le hlt hb.size,(hb.cell (p:=⟨b,off + i,none⟩) hlt).trans hc⟩
theorem append_oneN {W:World} {base:Nat} {v:Value} {ns:List Nat} (hown:W.ownsRow base 3 1 v ns.length (ncells ns)) (m:Nat) (hlen:(ns.length:Int)<=1000000) (hbase:base<=W.heap.size) :
  ∃ v' W',(Builtin.append_ #[207,207] 207 #[v,.slice (some ⟨W.heap.size,0,none⟩) 1 1]).run Tryz.prog (W.alloc (.cells #[.int .i64 (m:Int)] 3)) = .ok v' W'/\W'.ownsRow base 3 1 v' (ns ++ [m]).length (ncells (ns ++ [m]))/\(W.alloc (.cells #[.int .i64 (m:Int)] 3)).grownBy W' v.ownBlock/\(v'.ownBlock=v.ownBlock\/v'.ownBlock=some (W.heap.size + 1)):=by
 obtain ⟨i0,hi,hz0,hz1,hz2⟩:=info_parts infoIntN
 have hk:=BK.new W #[.int .i64 (m:Int)] 3
 obtain ⟨v',W',h1,h2,h3,h4⟩:=append_src (P:=Tryz.prog) (W.alloc (.cells #[.int .i64 (m:Int)] 3)) base 207 207 3 i0 _ 1 8 Tryz.underlying207 hi hz0 hz1 hz2 rfl (by decide) v ns.length (ncells ns) (hown.alloc _) (some ⟨W.heap.size,0,none⟩) 1 1 [.int .i64 (m:Int)] rfl (.inr ⟨_,rfl,fun j u hu=>by
  cases j with
  | zero=>cases hu; rw [Go.WideShapes.add_plain,hk.cell]; rfl
  | succ j=>simp at hu⟩) (by simp; rfl) (by unfold maxLen; omega) (by omega) (by simp; omega)
 exact ⟨v',W',h1,by simpa [ncells] using h2,h3,by simpa using h4⟩
theorem rall_any (a:Option Addr) (xs:List Itm) (c:Nat) (ha:Option Addr) (heads:List (Int × Int)) (hc:Nat) (w:World) (hp:Its w.heap.size w a xs) (hA:Asc xs) (hn:(xs.length:Int)<=500) (hd:∀ x ∈ xs,(x.data.length:Int)<=1000000) (hh:Digs w.heap.size w ha heads) (hhl:(heads.length:Int)<=1000) :
  Calls Tryz.prog 142 #[.slice a xs.length c,.slice ha heads.length hc] w (GotR w (visS xs heads [])):=by
 have HV:=hid (fun f sa seen sc x y W=>rvisit_any a xs c hA (by omega) hd f sa seen sc x y W)
 have HP:=hid hp
 have HH:=hid hh
 obtain ⟨R,hR⟩:∃ R,R=visS xs heads []:=⟨_,rfl⟩
 rw [<-hR]
 have HR:=hid hR
 obtain ⟨n,hnn⟩:∃ n,n=heads.length:=⟨_,rfl⟩
 rw [<-hnn] at hhl ⊢
 have HN:=hid hnn
 have HM:Hid (0 + mea xs heads []<=800000):=hid (by
  unfold mea
  have h2:=List.countP_le_length (p:=fun x:Itm=>!decide (x.d ∈ ([]:List (Int × Int)))) (l:=xs)
  have:heads.length<=1000:=by omega
  have:xs.length<=500:=by omega
  omega)
 have hB1:Below w.heap.size w (w.alloc (.cells #[] 41)):=(Below.refl _ w).alloc (Nat.le_refl _) _
 have HB1:=hid hB1
 clear hp hA hd hR hnn hh hB1
 generalize xs.length=nx at HV ⊢
 go_enter Tryz.func142,Tryz.ntmps142
 go_wp2_with fail
 go_loopw [6,7] (fun v i wr=>∃ (k:Nat) (cur:List (Int × Int)) (ca:Option Addr) (cc q:Nat),k<=n/\v = .slice ca q cc/\Hid (q=cur.length)/\q<=cc/\i = .int .i64 k/\Hid (Digs wr.heap.size wr ca cur)/\Hid (Below w.heap.size w wr)/\Hid (R=visS xs (heads.drop k) cur)/\Hid (q + mea xs (heads.drop k) cur<=800000)) (fun _ i _=>n - (intOf i).toNat)
 case atStart=>exact ⟨0,[],_,0,0,by omega,rfl,hid rfl,Nat.le_refl _,rfl,hid (Digs.nil _ _ _),HB1,HR,HM⟩
 case round=>
  clear HB1 HR HM
  obtain ⟨k,cur,ca,cc,q,hk,rfl,HQ,hqc,rfl,HD,HB,HR,HM⟩:=hrel
  by_cases hlt:k < n
  ·have h1:k < heads.length:=by have:=HN.out; omega
   obtain ⟨b0,of0,haa,hb0,q0,q1⟩:=(HH.out.ahead HB.out) k h1
   have HHx:=HH
   subst haa
   have HDR:Hid (heads.drop k=heads[k] :: heads.drop (k + 1)):=hid (List.drop_eq_getElem_cons h1)
   generalize heads[k]=p at q0 q1 HDR
   obtain ⟨p1,p2⟩:=p
   simp only at q0 q1
   have HC:=hid (HV.out _ ca cur cc p1 p2 wr (HP.out.ahead HB.out) HD.out (by rw [<-HQ.out]; exact hqc) (by have h2:=HM.out; rw [HDR.out] at h2; have h3:=mea_one xs (p1,p2) (heads.drop (k + 1)) cur; rw [<-HQ.out]; omega) (Nat.le_refl _))
   have HR2:Hid (R=if (visS xs [(p1,p2)] cur).2 ≠ 0 then ([],(visS xs [(p1,p2)] cur).2) else visS xs (heads.drop (k + 1)) (visS xs [(p1,p2)] cur).1):=hid (by rw [HR.out,HDR.out,visS_one])
   have HML:Hid ((visS xs [(p1,p2)] cur).2=0->(visS xs [(p1,p2)] cur).1.length + mea xs (heads.drop (k + 1)) (visS xs [(p1,p2)] cur).1<=800000):=hid (fun h=>by
    have h2:=visS_mea xs (heads.drop (k + 1)) _ _ _ (Nat.le_refl _) h
    have h3:=visS_le h
    have h4:=HM.out
    rw [HDR.out,HQ.out] at h4
    rw [List.singleton_append] at h2
    omega)
   rw [<-HQ.out] at HC
   generalize visS xs [(p1,p2)] cur=VR at HC HR2 HML
   obtain ⟨cur2,er⟩:=VR
   simp only at HC HR2 HML
   have hkn:(k:Int) < (n:Int):=by omega
   clear HR HM HDR
   go_wp2_with fail
   (with_reducible refine (HC.out).mono ?_)
   rintro e w6 ⟨da,dc,rfl,hdg,hdc,hb⟩
   have HB6:=hid (HB.out.trans (hb.mono HB.out.size))
   have HD6:=hid hdg
   clear hb hdg HC HB HD q0 q1
   by_cases he:er=0
   ·subst he
    have HR3:Hid (R=visS xs (heads.drop (k + 1)) cur2):=hid (by rw [HR2.out]; simp)
    have HM3:=hid (HML.out rfl)
    obtain ⟨q2,hq2⟩:∃ q2,q2=cur2.length:=⟨_,rfl⟩
    simp only at hdc ⊢
    rw [<-hq2] at HM3 hdc ⊢
    have HQ2:=hid hq2
    clear hq2 HR2 HML
    go_wp2_with fail
    go_roundw
    case rel=>exact ⟨k + 1,cur2,da,dc,q2,by omega,rfl,HQ2,hdc,by go_num,HD6,HB6,HR3,HM3⟩
    case measure=>simp [intOf] <;> omega
   ·have hee:(er != 0)=true:=by simpa using he
    have HX2:Hid (R=([],er)):=hid (by rw [HR2.out,if_pos he])
    clear HR2 HML he
    go_wp2_with fail
    go_ret2
    rw [HX2.out]
    exact ⟨none,0,rfl,Digs.nil _ _ _,Nat.le_refl _,HB6.out⟩
  ·have HX2:Hid (R=(cur,0)):=hid (by rw [HR.out,List.drop_of_length_le (by have:=HN.out; omega),visS_nil])
   have hkn:¬ (k:Int) < (n:Int):=by omega
   clear HR HM
   go_wp2_with fail
   go_ret2
   rw [HX2.out]
   exact ⟨ca,cc,by first | (rw [<-HQ.out]; done) | (rw [<-HQ.out]; rfl),HD.out,by rw [<-HQ.out]; exact hqc,HB.out⟩
theorem ncells_set (ns:List Nat) (i m:Nat):(ncells ns).set i (.int .i64 (m:Int))=ncells (ns.set i m):=by unfold ncells; rw [List.map_set]
theorem ncells_at {ns:List Nat} {i:Nat} (h:i < ns.length):(ncells ns)[i]? = some (.int .i64 ((ns.getD i 0:Nat):Int)):=by
 unfold ncells
 rw [List.getElem?_map,List.getElem?_eq_getElem h,List.getD_eq_getElem?_getD,List.getElem?_eq_getElem h]
 rfl
theorem own_nats {W:World} {base:Nat} {a:Option Addr} {n c:Nat} {ns:List Nat} (hn:n=ns.length) (h:W.ownsRow base 3 1 (.slice a n c) n (ncells ns)):Nats W.heap.size W a ns:=by
 subst hn
 intro i hi
 rcases h.2 with ⟨h1,h2⟩ | ⟨g,cap',cur,h1,_,hg,_⟩
 ·omega
 ·cases h1
  refine ⟨g,0,rfl,(Array.getElem?_eq_some_iff.1 hg).1,?_⟩
  rw [Nat.zero_add,h.cellAt i (by omega),ncells_at hi,List.getD_eq_getElem?_getD,List.getElem?_eq_getElem hi]
  rfl
theorem range_drop {n i:Nat} (h:i < n):(List.range n).drop i=i :: (List.range n).drop (i + 1):=by
 rw [List.drop_eq_getElem_cons (by simpa using h)]
 simp
theorem atL_get {l:List (Int × Int)} {i:Nat} (h:i < l.length):atL l i=l[i]:=by
 unfold atL; rw [List.getD_eq_getElem?_getD,List.getElem?_eq_getElem h]; rfl
theorem ownsRow_some {W:World} {base:Nat} {e:TypeId} {z:Nat} {a:Option Addr} {n c:Nat} {xs:List Value} (h:W.ownsRow base e z (.slice a n c) n xs) (hn:0 < n):∃ g,a=some ⟨g,0,none⟩/\base<=g/\g < W.heap.size:=by
 rcases h.2 with ⟨_,h2⟩ | ⟨g,cap',cur,h1,h2,hg,_⟩
 ·omega
 ·cases h1
  exact ⟨g,rfl,h2,(Array.getElem?_eq_some_iff.1 hg).1⟩
theorem und_zero (xs:List Itm) (l:List (Int × Int)):Und xs l (List.replicate l.length 0):=⟨by simp,fun i hi=>by simp [List.getD_eq_getElem?_getD,hi]⟩
def GotN (w:World) (ns:List Nat) (n:Nat) (e:Ending) (w':World):Prop:=∃ va vc,e = .returned (.slice va n vc)/\Nats w'.heap.size w' va ns/\Below w.heap.size w w'
theorem rdepths_any (a:Option Addr) (xs:List Itm) (c:Nat) (la:Option Addr) (l:List (Int × Int)) (lc:Nat) (w:World) (hp:Its w.heap.size w a xs) (hA:Asc xs) (hac:AcyS xs) (hn:(xs.length:Int)<=500) (hd:∀ x ∈ xs,(x.data.length:Int)<=1000000) (hl:Digs w.heap.size w la l) (hll:(l.length:Int)<=1000) :
  Calls Tryz.prog 143 #[.slice a xs.length c,.slice la l.length lc] w (GotN w (relN xs l l.length) l.length):=by
 have HCO:=hid (fun d1 d2 W (hW:Its W.heap.size W a xs)=>rcmt_any a xs c d1 d2 W hW hA (by omega) hd)
 have HP:=hid hp
 have HL:=hid hl
 have HDB:Hid (∀ d,depS xs d<=1000):=hid (fun d=>by
  have:=dep_rk hac _ d (Nat.le_refl _); have:=rk_le xs d; omega)
 have HAC:=hid hac
 obtain ⟨n,hnn⟩:∃ n,n=l.length:=⟨_,rfl⟩
 rw [<-hnn] at hll ⊢
 have HN:=hid hnn
 have hB1:Below w.heap.size w (w.alloc (.cells #[] 3)):=(Below.refl _ w).alloc (Nat.le_refl _) _
 have HB1:=hid hB1
 have HO1:Hid ((w.alloc (.cells #[] 3)).ownsRow w.heap.size 3 1 (.slice (some ⟨w.heap.size,0,none⟩) 0 0) 0 (ncells (List.replicate 0 0))):=hid (World.ownsRow_made (size:=1) w #[] 0 (Nat.le_refl _) (by decide) rfl)
 clear hp hA hd hnn hl hB1 hac
 generalize xs.length=nx at HCO ⊢
 go_enter Tryz.func143,Tryz.ntmps143
 go_wp2_with fail
 go_loopw [5,6] (fun v i wr=>∃ k:Nat,k<=n/\i = .int .i64 k/\Hid (wr.ownsRow w.heap.size 3 1 v k (ncells (List.replicate k 0)))/\Hid (Below w.heap.size w wr)) (fun _ i _=>n - (intOf i).toNat)
 case atStart=>exact ⟨0,by omega,rfl,HO1,HB1⟩
 case round=>
  clear HO1 HB1
  obtain ⟨k,hk,rfl,HO,HB⟩:=hrel
  obtain ⟨va,vc,rfl,hvc⟩:=ownsRow_sliceN HO.out
  by_cases hlt:k < n
  ·have hkn:(k:Int) < (n:Int):=by omega
   obtain ⟨v',W',hrun,hown',hg',_⟩:=append_oneN (ns:=List.replicate k 0) (by rw [List.length_replicate]; exact HO.out) 0 (by simp; omega) HB.out.size
   have HB4:Hid (Below w.heap.size w W'):=hid ((HB.out.alloc HB.out.size _).grown hg' (by have:=HB.out.size; simp; omega) (fun j hj=>by have:=(HO.out.lt j hj).1; omega))
   have HO4:Hid (W'.ownsRow w.heap.size 3 1 v' (k + 1) (ncells (List.replicate (k + 1) 0))):=hid (by
    have h5:List.replicate k 0 ++ [0]=List.replicate (k + 1) 0:=by rw [List.replicate_succ']
    rw [h5,List.length_replicate] at hown'
    exact hown')
   have HRUN:=hid hrun
   clear hrun hown' hg' HO HB
   go_wp2_with (at_builtin; refine Lib.wpList_append_run _ rfl _ _ _ _ rfl _ _ rfl rfl _ _ HRUN.out ?_)
   go_roundw
   case rel=>exact ⟨k + 1,by omega,by go_num,HO4,HB4⟩
   case measure=>simp [intOf] <;> omega
  ·obtain rfl:k=n:=by omega
   have hkn:¬ (k:Int) < (k:Int):=by omega
   obtain ⟨x0,hx0⟩:∃ x0,x0=wr:=⟨_,rfl⟩
   rw [<-hx0] at HB HO ⊢
   clear hx0
   by_cases hk0:k=0
   ·subst hk0
    go_wp2_with fail
    go_loopw [7] (fun i wr=>i = .int .i64 0/\Hid (Below w.heap.size w wr)) (fun _ _=>0)
    case atStart=>exact ⟨rfl,HB⟩
    case round=>
     obtain ⟨rfl,HB⟩:=hrel
     go_wp2_with fail
     go_ret
     exact ⟨va,vc,rfl,fun i hi=>by simp [relN,<-HN.out] at hi,HB.out⟩
   ·obtain ⟨g,rfl,hg0,hg1⟩:=ownsRow_some HO.out (by omega)
    have HUZ:Hid (Und xs l (List.replicate k 0)):=hid (by rw [HN.out]; exact und_zero xs l)
    have HRZ:Hid (relN xs l 0=List.replicate k 0):=hid (by rw [HN.out]; rfl)
    rw [<-HRZ.out] at HUZ HO
    clear HRZ
    obtain ⟨x1,hx1⟩:∃ x,x=x0:=⟨_,rfl⟩
    go_wp2_with fail
    go_loopw [7] (fun i wr=>∃ r:Nat,r<=k/\i = .int .i64 r/\Hid (wr.ownsRow w.heap.size 3 1 (.slice (some ⟨g,0,none⟩) k vc) k (ncells (relN xs l r)))/\Hid (Und xs l (relN xs l r))/\Hid (Below w.heap.size w wr)) (fun i _=>k - (intOf i).toNat)
    case atStart=>exact ⟨0,by omega,rfl,HO,HUZ,HB⟩
    case round=>
     clear HO HUZ HB
     obtain ⟨r,hr,rfl,HO,HUN,HB⟩:=hrel
     by_cases hrk:r < k
     ·have hrn:(r:Int) < (k:Int):=by omega
      have HST:Hid (relN xs l (r + 1)=((List.range k).drop 0).foldl (rRow xs l) (relN xs l r)):=hid (by rw [List.drop_zero,HN.out]; rfl)
      generalize relN xs l r=out0 at HO HUN HST
      go_wp2_with fail
      go_loopw [8] (fun i wr=>∃ (i':Nat) (out:List Nat),i'<=k/\i = .int .i64 i'/\Hid (wr.ownsRow w.heap.size 3 1 (.slice (some ⟨g,0,none⟩) k vc) k (ncells out))/\Hid (Und xs l out)/\Hid (relN xs l (r + 1)=((List.range k).drop i').foldl (rRow xs l) out)/\Hid (Below w.heap.size w wr)) (fun i _=>k - (intOf i).toNat)
      case atStart=>exact ⟨0,out0,by omega,rfl,HO,HUN,HST,HB⟩
      case round=>
       clear HO HUN HST HB
       obtain ⟨i,out,hi,rfl,HO,HUN,HST,HB⟩:=hrel
       by_cases hik:i < k
       ·have hin:(i:Int) < (k:Int):=by omega
        have h1:i < l.length:=by have:=HN.out; omega
        obtain ⟨b0,of0,haa,hb0,q0,q1⟩:=(HL.out.ahead HB.out) i h1
        have HLx:=hid (HL.out.ahead HB.out)
        subst haa
        have hat:=atL_get h1
        have HST2:Hid (relN xs l (r + 1)=((List.range k).drop (i + 1)).foldl (rRow xs l) (rRow xs l out i)):=hid (by rw [HST.out,range_drop hik,List.foldl_cons])
        have HRW:Hid (rRow xs l out i=((List.range k).drop 0).foldl (rStep xs l i) out):=hid (by rw [List.drop_zero,HN.out]; rfl)
        generalize rRow xs l out i=out2 at HST2 HRW
        generalize hdd:l[i]=d at q0 q1 hat
        obtain ⟨d1,d2⟩:=d
        simp only at q0 q1
        have HAT:=hid hat
        have HC:=hid (HCO.out d1 d2 wr (HP.out.ahead HB.out))
        have HCS:Hid (∀ o kk,rStep xs l i o kk=if atL l kk ∈ (commitS xs (d1,d2)).1.pars then o.set i (max (o.getD i 0) (o.getD kk 0 + 1)) else o):=hid (fun o kk=>by unfold rStep; rw [hat])
        obtain ⟨CR,hCR⟩:∃ CR,CR=commitS xs (d1,d2):=⟨_,rfl⟩
        rw [<-hCR] at HC HCS
        obtain ⟨⟨kind,data,ents,⟨t1,t2⟩,pars,author,time,msg⟩,er⟩:=CR
        simp only at HC HCS
        clear hCR hdd hat HST
        go_wp2_with fail
        (with_reducible refine (HC.out).mono ?_)
        rintro e u ⟨ea,ec,pa,pc,rfl,hob,hb⟩
        simp only [Ob.val]
        have hpl:=hob.bb.plen
        simp only at hpl
        have HPO:=hid hob.po
        obtain ⟨np,hnp⟩:∃ n,n=pars.length:=⟨_,rfl⟩
        rw [<-hnp] at hpl ⊢
        have HNP:=hid hnp
        generalize ents.length=ne
        simp only at HPO
        rw [<-hnp] at HPO
        have hzu:wr.heap.size<=u.heap.size:=hb.size
        have hgw:g < wr.heap.size:=(HO.out.lt g rfl).2
        have HB2:=hid (HB.out.trans (hb.mono HB.out.size))
        have HO2:=hid (own_below HO.out hb)
        have HL2:=hid (HLx.out.ahead hb)
        obtain ⟨v2,hv2⟩:∃ v2,v2=u.alloc (.cells #[.int .i64 kind,.string ⟨data.toArray⟩,.slice ea ne ec,.int .u64 t1,.int .u64 t2,.slice pa np pc,.string ⟨author.toArray⟩,.int .i64 time,.string ⟨msg.toArray⟩] 56):=⟨_,rfl⟩
        have hbv:Below u.heap.size u v2:=by rw [hv2]; exact (Below.refl _ _).alloc (Nat.le_refl _) _
        have HB3:=hid (HB2.out.trans (hbv.mono HB2.out.size))
        have HO3:=hid (own_below HO2.out hbv)
        have HL3:=hid (HL2.out.ahead hbv)
        have HP3:=hid (own_below HPO.out hbv)
        have HKO:Hid (BK u.heap.size #[.int .i64 kind,.string ⟨data.toArray⟩,.slice ea ne ec,.int .u64 t1,.int .u64 t2,.slice pa np pc,.string ⟨author.toArray⟩,.int .i64 time,.string ⟨msg.toArray⟩] 56 v2):=hid (by rw [hv2]; exact BK.new _ _ _)
        have HV2:=hid hv2
        obtain ⟨bw,hbw⟩:∃ b,b=wr.heap.size:=⟨_,rfl⟩
        obtain ⟨bo,hbo⟩:∃ b,b=u.heap.size:=⟨_,rfl⟩
        have HGB:Hid (g < bw/\bw<=bo):=hid (by omega)
        rw [<-hbw] at HP3
        rw [<-hbo] at HKO
        have HBO:=hid hbo
        clear hob hb hbv hv2 hnp HC HPO HB2 HO2 HL2 HO HB HLx q0 q1 hbw hbo hzu hgw
        go_upto_region 13 with (fail)
        rw [<-HV2.out,<-HBO.out]
        go_wp2_with fail
        go_loopw [11] (fun v wr=>∃ (j:Nat) (out:List Nat),j<=k/\v = .int .i64 j/\Hid (wr.ownsRow w.heap.size 3 1 (.slice (some ⟨g,0,none⟩) k vc) k (ncells out))/\Hid (Und xs l out)/\Hid (out2=((List.range k).drop j).foldl (rStep xs l i) out)/\Hid (Below w.heap.size w wr)/\Hid (BK bo #[.int .i64 kind,.string ⟨data.toArray⟩,.slice ea ne ec,.int .u64 t1,.int .u64 t2,.slice pa np pc,.string ⟨author.toArray⟩,.int .i64 time,.string ⟨msg.toArray⟩] 56 wr)/\Hid (wr.ownsRow bw 41 2 (.slice pa np pc) np (dcells pars))) (fun v _=>k - (intOf v).toNat)
        case atStart=>exact ⟨0,out,by omega,rfl,HO3,HUN,HRW,HB3,HKO,HP3⟩
        case round=>
         clear HO3 HUN HRW HB3 HKO HP3 HL3 HV2 HBO
         obtain ⟨j,out,hj,rfl,HO,HUN,HRW,HB,HKO,HP3⟩:=hrel
         by_cases hjk:j < k
         ·have hjn:(j:Int) < (k:Int):=by omega
          have h2:j < l.length:=by have:=HN.out; omega
          obtain ⟨b2,of2,haa,hb2,q0,q1⟩:=(HL.out.ahead HB.out) j h2
          cases haa
          have hat:=atL_get h2
          obtain ⟨g1,_,_⟩:=rStep_law HAC.out h1 h2 HUN.out
          have HST3:Hid (out2=((List.range k).drop (j + 1)).foldl (rStep xs l i) (rStep xs l i out j)):=hid (by rw [HRW.out,range_drop hjk,List.foldl_cons])
          have hrs:=HCS.out out j
          rw [hat] at hrs
          have HRS:=hid hrs
          have HG1:=hid g1
          generalize l[j]=p at q0 q1 HRS hat
          obtain ⟨p1,p2⟩:=p
          simp only at q0 q1
          generalize rStep xs l i out j=out3 at HST3 HRS HG1
          have hvi:out.getD i 0<=1000:=Nat.le_trans (HUN.out.2 i h1) (HDB.out _)
          have hvk:out.getD j 0<=1000:=Nat.le_trans (HUN.out.2 j h2) (HDB.out _)
          have hci:(ncells out)[i]? = some (.int .i64 ((out.getD i 0:Nat):Int)):=ncells_at (by rw [HUN.out.1]; exact h1)
          have hcj:(ncells out)[j]? = some (.int .i64 ((out.getD j 0:Nat):Int)):=ncells_at (by rw [HUN.out.1]; exact h2)
          have HMI:=hid (ncells_set out i)
          have HCI:=hid hci
          have HCJ:=hid hcj
          generalize out.getD i 0=vi at hvi HCI HRS
          generalize out.getD j 0=vk at hvk HCJ HRS
          have HIN:=hid (fun W (hW:Below wr.heap.size wr W)=>rin_any pa pars pc p1 p2 W (own_digs HNP.out (own_below HP3.out hW)) (by rw [<-HNP.out]; omega))
          rw [<-HNP.out] at HIN
          have o5:wr.cell? ⟨bo,5,none⟩=some (.slice pa np pc):=by rw [HKO.out.cell]; rfl
          have rq0:=cell_regrown q0
          have rq1:=cell_regrown q1
          have ro5:=cell_regrown o5
          clear hrs hci hcj hat g1 HRW HUN
          cases hin:decide ((p1,p2) ∈ pars) with
          | false=>
           rw [hin] at HIN
           have hos:out3=out:=by rw [HRS.out,if_neg (by simpa using hin)]
           subst hos
           clear hin HRS
           have HRI:=hid (fun d os=>Calls.regrown_of (w:=wr) (d:=d) (os:=os) (HIN.out _ (below_regrown wr d os)))
           clear HIN
           go_wp2_with fail
           refine wp_region_quiet_below (by kernel_rfl) (by kernel_rfl) ?_
           repeat (any_goals (first | go_big_quiet_step (first | (with_reducible exact HRI.out _ _)) | quiet_step (first | (with_reducible exact HRI.out _ _))))
           refine wpQuiet_nil ?_
           intro u3 hu3
           have hb:=below_rg hu3
           clear HRI rq0 rq1 ro5 hu3
           have HB5:=hid (HB.out.trans (hb.mono HB.out.size))
           have HO5:=hid (own_below HO.out hb)
           have HK5:=hid (HKO.out.below hb)
           have HP5:=hid (own_below HP3.out hb)
           clear hb HB HO HKO HP3 q0 q1 o5
           go_wp2_with fail
           go_roundw
           case rel=>exact ⟨j + 1,out3,by omega,by go_num,HO5,HG1,HST3,HB5,HK5,HP5⟩
           case measure=>simp [intOf] <;> omega
          | true=>
           rw [hin] at HIN
           have HOS:Hid (out3=out.set i (max vi (vk + 1))):=hid (by rw [HRS.out,if_pos (by simpa using hin)])
           clear hin HRS
           have HRI:=hid (fun d os=>Calls.regrown_of (w:=wr) (d:=d) (os:=os) (HIN.out _ (below_regrown wr d os)))
           clear HIN
           go_wp2_with fail
           refine wp_region_quiet_below (by kernel_rfl) (by kernel_rfl) ?_
           repeat (any_goals (first | go_big_quiet_step (first | (with_reducible exact HRI.out _ _)) | quiet_step (first | (with_reducible exact HRI.out _ _))))
           refine wpQuiet_nil ?_
           intro u3 hu3
           have hb:=below_rg hu3
           clear HRI rq0 rq1 ro5 hu3
           have HB5:=hid (HB.out.trans (hb.mono HB.out.size))
           have HO5:=hid (own_below HO.out hb)
           have HK5:=hid (HKO.out.below hb)
           have HP5:=hid (own_below HP3.out hb)
           have ci:u3.cell? ⟨g,i,none⟩=some (.int .i64 (vi:Int)):=by rw [HO5.out.cellAt i (by omega),HCI.out]
           have cj:u3.cell? ⟨g,j,none⟩=some (.int .i64 (vk:Int)):=by rw [HO5.out.cellAt j (by omega),HCJ.out]
           have fi:u3.frozen? ⟨g,i,none⟩=false:=HO5.out.frozenAt i
           clear hb HB HO HKO HP3 q0 q1 o5 HCI HCJ
           obtain ⟨hst,hgs⟩:=HO5.out.stored i (.int .i64 (max (vi:Int) ((vk:Int) + 1)))
           have hcast:((max vi (vk + 1):Nat):Int)=max (vi:Int) ((vk:Int) + 1):=by omega
           have HO6:Hid ((u3.setCell ⟨g,i,none⟩ (.int .i64 (max (vi:Int) ((vk:Int) + 1)))).drew.ownsRow w.heap.size 3 1 (.slice (some ⟨g,0,none⟩) k vc) k (ncells out3)):=hid (by
            rw [HOS.out,<-HMI.out,hcast]; exact hst.drew)
           have HB6:=hid ((HB5.out.grown hgs HB5.out.size (fun j' e'=>by cases e'; exact hg0)).drew)
           have HK6:Hid (BK bo #[.int .i64 kind,.string ⟨data.toArray⟩,.slice ea ne ec,.int .u64 t1,.int .u64 t2,.slice pa np pc,.string ⟨author.toArray⟩,.int .i64 time,.string ⟨msg.toArray⟩] 56 (u3.setCell ⟨g,i,none⟩ (.int .i64 (max (vi:Int) ((vk:Int) + 1)))).drew):=hid (HK5.out.other (c:=g) (by have:=HGB.out; omega) i (.int .i64 (max (vi:Int) ((vk:Int) + 1))))
           have HP6:=hid ((own_kept HP5.out hgs HGB.out.1).drew)
           clear hst hgs HB5 HO5 HK5 HP5 hcast HOS HMI
           go_wp2_with fail
           go_region_law (fail)
           all_goals go_wp2_with fail
           all_goals go_roundw
           all_goals first | exact ⟨j + 1,out3,by omega,by go_num,HO6,HG1,HST3,HB6,HK6,HP6⟩ | (simp [intOf] <;> omega)
         ·have hjn:¬ (j:Int) < (k:Int):=by omega
          have hos:out2=out:=by rw [HRW.out,List.drop_of_length_le (by simp; omega),List.foldl_nil]
          subst hos
          clear HRW
          go_wp2_with fail
          go_roundw
          case rel=>exact ⟨i + 1,out2,by omega,by go_num,HO,HUN,HST2,HB⟩
          case measure=>simp [intOf] <;> omega
       ·have hin:¬ (i:Int) < (k:Int):=by omega
        have hos:relN xs l (r + 1)=out:=by rw [HST.out,List.drop_of_length_le (by simp; omega),List.foldl_nil]
        rw [<-hos] at HO HUN
        clear HST hos
        go_wp2_with fail
        go_roundw
        case rel=>exact ⟨r + 1,by omega,by go_num,HO,HUN,HB⟩
        case measure=>simp [intOf] <;> omega
     ·have hrn:¬ (r:Int) < (k:Int):=by omega
      obtain rfl:r=k:=by omega
      have HNT:=hid (own_nats (by rw [HUN.out.1]; exact HN.out) HO.out)
      go_wp2_with fail
      go_ret
      exact ⟨some ⟨g,0,none⟩,vc,rfl,HNT.out,HB.out⟩
theorem withS_len1:∀ (l:List (Int × Int)) (d:Int × Int),(withS l d).length<=l.length + 1
 | [],d=>by simp [withS]
 | y :: l,d=>by
  have:=withS_len1 l d
  rw [withS_cons]
  split
  ·simp; omega
  ·split <;> simp
theorem drop_filter_hit {l:List (Int × Int)} {P:Int × Int->Bool} {i:Nat} (h:i < l.length) (acc:List (Int × Int)):((l.drop i).filter P).foldl withS acc=((l.drop (i + 1)).filter P).foldl withS (if P l[i] then withS acc l[i] else acc):=by
 rw [List.drop_eq_getElem_cons h]
 by_cases hp:P l[i]=true
 ·rw [List.filter_cons_of_pos hp,if_pos hp,List.foldl_cons]
 ·rw [List.filter_cons_of_neg hp,if_neg hp]
theorem rancestors_any (a:Option Addr) (xs:List Itm) (c:Nat) (ha:Option Addr) (heads:List (Int × Int)) (hc:Nat) (w:World) (hp:Its w.heap.size w a xs) (hA:Asc xs) (hac:AcyS xs) (hn:(xs.length:Int)<=500) (hd:∀ x ∈ xs,(x.data.length:Int)<=1000000) (hh:Digs w.heap.size w ha heads) (hhl:(heads.length:Int)<=1000) (hok:∀ d ∈ heads,OkD d) :
  Calls Tryz.prog 82 #[.slice a xs.length c,.slice ha heads.length hc] w (GotR w (ancS xs heads)):=by
 have HAL:=hid (rall_any a xs c ha heads hc w hp hA hn hd hh hhl)
 obtain ⟨R,hR⟩:∃ R,R=ancS xs heads:=⟨_,rfl⟩
 rw [<-hR]
 by_cases he:(visS xs heads []).2=0
 ·have hf:=vis_facts he hok
  have HDE:=hid (fun W la lc (hl:Digs W.heap.size W la (visS xs heads []).1) (hW:Below w.heap.size w W)=>rdepths_any a xs c la (visS xs heads []).1 lc W (hp.ahead hW) hA hac hn hd hl (by have:=hf.le; omega))
  have HLY:Hid (R=(layersS (depS xs) (visS xs heads []).1 ((visS xs heads []).1.length + 1),0)):=hid (by
   rw [hR]
   unfold ancS
   rw [if_neg (by simpa using he),layers_sort hf.nd (fun x hx=>Nat.lt_succ_of_lt (dep_len hac (fun d hd=>(hf.cl d hd).2) hx))])
  have HDP:Hid (∀ i (h:i < (visS xs heads []).1.length),(relN xs (visS xs heads []).1 (visS xs heads []).1.length).getD i 0=depS xs (visS xs heads []).1[i]):=hid (fun i h=>by
   rw [relN_dep hac (fun d hd=>(hf.cl d hd).2) h,atL_get h])
  have HRL:Hid ((relN xs (visS xs heads []).1 (visS xs heads []).1.length).length=(visS xs heads []).1.length):=hid ((relN_law hac (fun d hd=>(hf.cl d hd).2) _).1.1)
  have hln:((visS xs heads []).1.length:Int)<=500:=by have:=hf.le; omega
  have HDL:Hid (∀ i (h:i < (visS xs heads []).1.length),depS xs (visS xs heads []).1[i] < (visS xs heads []).1.length):=hid (fun i h=>dep_len hac (fun d hd=>(hf.cl d hd).2) (List.getElem_mem h))
  have hvs:visS xs heads []=((visS xs heads []).1,0):=Prod.ext rfl he
  rw [hvs] at HAL
  clear hvs hf he hR hp hh hhl hok hA hac hd hn
  generalize (visS xs heads []).1=l at HAL HDE HLY HDP HRL hln HDL
  generalize relN xs l l.length=rel at HDE HDP HRL
  obtain ⟨n,hnn⟩:∃ n,n=l.length:=⟨_,rfl⟩
  rw [<-hnn] at HDE hln
  have HN:=hid hnn
  generalize heads.length=nh at HAL ⊢
  generalize xs.length=nx at HAL HDE ⊢
  clear hnn
  go_enter Tryz.func82,Tryz.ntmps82
  go_wp2_with fail
  (with_reducible refine (HAL.out).mono ?_)
  rintro e u ⟨la,lc,rfl,hdg,hlc,hb⟩
  simp only at hdg hlc ⊢
  rw [<-HN.out] at hlc ⊢
  have HB1:=hid hb
  have HD1:=hid hdg
  have HC1:=hid (HDE.out u la lc hdg hb)
  clear hb hdg HAL HDE
  go_wp2_with fail
  (with_reducible refine (HC1.out).mono ?_)
  rintro e u2 ⟨va,vc,rfl,hnt,hb⟩
  have HB2:=hid (HB1.out.trans (hb.mono HB1.out.size))
  have HD2:=hid (HD1.out.ahead hb)
  have HNT:=hid hnt
  clear hb hnt HC1 HB1 HD1
  have HO2:Hid ((u2.alloc (.cells #[] 41)).ownsRow u2.heap.size 41 2 (.slice (some ⟨u2.heap.size,0,none⟩) 0 0) ([]:List (Int × Int)).length (dcells [])):=hid (World.ownsRow_made (size:=2) u2 #[] 0 (Nat.le_refl _) (by decide) rfl)
  have HE2:Hid (Below u2.heap.size u2 (u2.alloc (.cells #[] 41))):=hid ((Below.refl _ u2).alloc (Nat.le_refl _) _)
  go_wp2_with fail
  go_loopw [9,10] (fun v i wr=>∃ (k:Nat) (out:List (Int × Int)),k<=n + 1/\i = .int .i64 ((k:Int) - 1)/\Hid (wr.ownsRow u2.heap.size 41 2 v out.length (dcells out))/\Hid (layersS (depS xs) l (n + 1)=out ++ layersS (depS xs) l k/\out.length<=(n + 1 - k) * n)/\Hid (Below u2.heap.size u2 wr)) (fun _ i _=>(intOf i + 1).toNat)
  case atStart=>exact ⟨n + 1,[],by omega,by go_num,HO2,hid ⟨rfl,by simp⟩,HE2⟩
  case round=>
   clear HO2 HE2
   obtain ⟨k,out,hk,rfl,HO,HT,HE⟩:=hrel
   obtain ⟨oa,oc,rfl,hoc⟩:=ownsRow_sliceN HO.out
   by_cases hk0:0 < k
   ·obtain ⟨kk,rfl⟩:∃ kk,k=kk + 1:=⟨k - 1,by omega⟩
    have hix:((kk + 1:Nat):Int) - 1=(kk:Int):=by omega
    rw [hix]
    have hkn:(kk:Int)<=500:=by omega
    have hkg:(0:Int)<=(kk:Int):=by omega
    have HSM:Hid (layerS (depS xs) l kk=((l.drop 0).filter fun d=>decide (depS xs d=kk)).foldl withS []):=hid rfl
    have HT2:Hid (layersS (depS xs) l (n + 1)=(out ++ layerS (depS xs) l kk) ++ layersS (depS xs) l kk):=hid (by rw [HT.out.1,layersS,List.append_assoc])
    have HTL:=hid HT.out.2
    generalize layerS (depS xs) l kk=LY at HSM HT2
    have HO3:=hid (HO.out.alloc (.cells #[] 41))
    have HE3:=hid (HE.out.alloc HE.out.size (.cells #[] 41))
    have HS3:Hid (Digs (wr.alloc (.cells #[] 41)).heap.size (wr.alloc (.cells #[] 41)) (some ⟨wr.heap.size,0,none⟩) []):=hid (Digs.nil _ _ _)
    obtain ⟨ol,hol⟩:∃ n,n=out.length:=⟨_,rfl⟩
    rw [<-hol] at HO3 hoc HTL ⊢
    have HOL:=hid hol
    clear HO HT HE hol
    go_wp2_with fail
    go_loopw [11,12] (fun v i wr=>∃ (j q:Nat) (same:List (Int × Int)) (sa:Option Addr) (sc:Nat),j<=n/\v = .slice sa q sc/\i = .int .i64 j/\Hid (q=same.length)/\q<=sc/\q<=j/\Hid (Digs wr.heap.size wr sa same)/\Hid (LY=((l.drop j).filter fun d=>decide (depS xs d=kk)).foldl withS same)/\Hid (wr.ownsRow u2.heap.size 41 2 (.slice oa ol oc) ol (dcells out))/\Hid (Below u2.heap.size u2 wr)) (fun _ i _=>n - (intOf i).toNat)
    case atStart=>exact ⟨0,0,[],_,0,by omega,rfl,rfl,hid rfl,by omega,by omega,HS3,HSM,HO3,HE3⟩
    case round=>
     clear HS3 HSM HO3 HE3
     obtain ⟨j,q,same,sa,sc,hj,rfl,rfl,HQ,hqc,hqj,HS,HSM,HO,HE⟩:=hrel
     by_cases hjn:j < n
     ·have hji:(j:Int) < (n:Int):=by omega
      have h1:j < l.length:=by have:=HN.out; omega
      obtain ⟨b0,of0,haa,hb0,q0,q1⟩:=(HD2.out.ahead HE.out) j h1
      have HDx:=HD2
      subst haa
      obtain ⟨b1,of1,haa,hb1,d0⟩:=(HNT.out.ahead HE.out) j (by rw [HRL.out]; exact h1)
      have HNx:=HNT
      subst haa
      have hdv:rel[j]'(by rw [HRL.out]; exact h1)=depS xs l[j]:=by
       rw [<-HDP.out j h1,List.getD_eq_getElem?_getD,List.getElem?_eq_getElem (by rw [HRL.out]; exact h1)]; rfl
      rw [hdv] at d0
      have hdl:=HDL.out j h1
      rw [<-HN.out] at hdl
      have hSM:=HSM.out
      rw [drop_filter_hit h1] at hSM
      have HSM2:=hid hSM
      have HWI:=hid (fun p1 p2=>rwith_any sa same sc p1 p2 wr HS.out (by rw [<-HQ.out]; exact hqc) (by rw [<-HQ.out]; omega))
      rw [<-HQ.out] at HWI
      clear hSM hdv HSM
      by_cases hdk:depS xs l[j]=kk
      ·have HLn:=hid (withS_len1 same l[j])
       have HSM3:Hid (LY=((l.drop (j + 1)).filter fun d=>decide (depS xs d=kk)).foldl withS (withS same l[j])):=hid (by rw [HSM2.out,if_pos (by simpa using hdk)])
       rw [hdk] at d0
       clear HSM2 hdk hdl
       generalize l[j]=p at q0 q1 HSM3 HLn
       obtain ⟨p1,p2⟩:=p
       simp only at q0 q1
       have HW1:=hid (HWI.out p1 p2)
       generalize withS same (p1,p2)=same2 at HSM3 HLn HW1
       clear HWI
       go_wp2_with fail
       (with_reducible refine (HW1.out).mono ?_)
       rintro e u3 ⟨sa2,sc2,rfl,hdg,hsc,_,hb⟩
       have HE4:=hid (HE.out.trans (hb.mono HE.out.size))
       have HO4:=hid (own_below HO.out hb)
       have HS4:=hid hdg
       obtain ⟨q2,hq2⟩:∃ n,n=same2.length:=⟨_,rfl⟩
       have hq3:q2<=j + 1:=by have:=HLn.out; have:=HQ.out; omega
       rw [<-hq2] at hsc ⊢
       have HQ2:=hid hq2
       clear hb hdg hq2 HW1 HS HO HE q0 q1 d0 HLn
       go_wp2_with fail
       go_roundw
       case rel=>exact ⟨j + 1,q2,same2,sa2,sc2,by omega,rfl,by go_num,HQ2,hsc,hq3,HS4,HSM3,HO4,HE4⟩
       case measure=>simp [intOf] <;> omega
      ·have HSM3:Hid (LY=((l.drop (j + 1)).filter fun d=>decide (depS xs d=kk)).foldl withS same):=hid (by rw [HSM2.out,if_neg (by simpa using hdk)])
       have hne:(((depS xs l[j]:Nat):Int) == (kk:Int))=false:=by simp; omega
       generalize depS xs l[j]=dv at d0 hne hdl
       clear HSM2 hdk HWI
       go_wp2_with fail
       go_roundw
       case rel=>exact ⟨j + 1,q,same,sa,sc,by omega,rfl,by go_num,HQ,hqc,by omega,HS,HSM3,HO,HE⟩
       case measure=>simp [intOf] <;> omega
     ·have hji:¬ (j:Int) < (n:Int):=by omega
      have hly:LY=same:=by rw [HSM.out,List.drop_of_length_le (by have:=HN.out; omega)]; rfl
      rw [hly] at HT2
      obtain ⟨v',W',hrun,hown',hg',_⟩:=append_digs wr u2.heap.size 24 (.slice oa ol oc) out (by rw [<-HOL.out]; exact HO.out) sa same sc HS.out (by
       have h1:=HTL.out
       have h2:(n + 1 - (kk + 1)) * n<=500 * 500:=Nat.mul_le_mul (by omega) (by omega)
       rw [<-HOL.out,<-HQ.out]
       omega) HE.out.size
      rw [<-HQ.out] at hrun
      have HE4:Hid (Below u2.heap.size u2 W'):=hid (below_own HE.out HO.out hg' (Nat.le_refl _))
      have HO4:=hid hown'
      have HT3:Hid (layersS (depS xs) l (n + 1)=(out ++ same) ++ layersS (depS xs) l kk/\(out ++ same).length<=(n + 1 - kk) * n):=hid ⟨HT2.out,by
       have h1:=HTL.out
       have h2:(n + 1 - kk) * n=(n + 1 - (kk + 1)) * n + n:=by
        rw [show n + 1 - kk=(n + 1 - (kk + 1)) + 1 by omega,Nat.succ_mul]
       rw [List.length_append,<-HOL.out,<-HQ.out]
       omega⟩
      have HRUN:=hid hrun
      clear hrun hown' hg' HE HO HT2 HS hly HSM
      go_wp2_with (at_builtin; refine Lib.wpList_append_run _ rfl _ _ _ _ rfl _ _ rfl rfl _ _ HRUN.out ?_)
      go_roundw
      case rel=>exact ⟨kk,out ++ same,by omega,by go_num,HO4,HT3,HE4⟩
      case measure=>simp [intOf] <;> omega
   ·have hk1:k=0:=by omega
    subst hk1
    have HX:Hid (R=(out,0)):=hid (by rw [HLY.out,<-HN.out,HT.out.1]; simp [layersS])
    have HB:=hid (HB2.out.trans (HE.out.mono HB2.out.size))
    have HDO:=hid (ownsRow_digs HO.out)
    clear HT
    go_wp2_with fail
    go_ret2
    rw [HX.out]
    exact ⟨oa,oc,rfl,HDO.out,hoc,HB.out⟩
 ·have HX:Hid (R=([],(visS xs heads []).2)):=hid (by rw [hR]; unfold ancS; rw [if_pos he])
  have hvs:(visS xs heads []).1=[]:=(visS_bad xs _ heads [] (Nat.le_refl _) he).1
  rw [show visS xs heads []=([],(visS xs heads []).2) from Prod.ext hvs rfl] at HAL
  generalize (visS xs heads []).2=er at HAL HX he
  have hee:(er != 0)=true:=by simpa using he
  clear hvs he hR hp hh hhl hok hA hac hd hn
  generalize heads.length=nh at HAL ⊢
  generalize xs.length=nx at HAL ⊢
  go_enter Tryz.func82,Tryz.ntmps82
  go_wp2_with fail
  (with_reducible refine (HAL.out).mono ?_)
  rintro e u ⟨la,lc,rfl,hdg,hlc,hb⟩
  have HB1:=hid hb
  clear hb hdg HAL
  go_wp2_with fail
  go_ret2
  rw [HX.out]
  exact ⟨none,0,rfl,Digs.nil _ _ _,Nat.le_refl _,HB1.out⟩
theorem rreaches_any (a:Option Addr) (xs:List Itm) (c:Nat) (x y x' y':Int) (w:World) (hp:Its w.heap.size w a xs) (hA:Asc xs) (hn:(xs.length:Int)<=500) (hd:∀ x ∈ xs,(x.data.length:Int)<=1000000) (hok:OkD (x,y)) :
  Calls Tryz.prog 157 #[.slice a xs.length c,.agg #[.int .u64 x,.int .u64 y],.agg #[.int .u64 x',.int .u64 y']] w fun e w'=>e = .returned (.tuple #[.bool (reachesS xs (x,y) (x',y')).1,.int .i64 (reachesS xs (x,y) (x',y')).2])/\Below w.heap.size w w':=by
 have HAL:=hid (fun W q (hW:Below w.heap.size w W) (hk:BK q #[.int .u64 x,.int .u64 y] 41 W)=>rall_any a xs c (some ⟨q,0,none⟩) [(x,y)] 1 W (hp.ahead hW) hA hn hd (digs_one hk) (by simp))
 simp only [List.length_cons,List.length_nil,Nat.zero_add] at HAL
 obtain ⟨R,hR⟩:∃ R,R=reachesS xs (x,y) (x',y'):=⟨_,rfl⟩
 rw [<-hR]
 unfold reachesS at hR
 have hln:(visS xs [(x,y)] []).2=0->((visS xs [(x,y)] []).1.length:Int)<=500:=fun h=>by
  have:=(vis_facts h (fun d hd=>by rw [List.mem_singleton.1 hd]; exact hok)).le
  omega
 generalize visS xs [(x,y)] []=VR at HAL hR hln
 obtain ⟨l,er⟩:=VR
 simp only at HAL hR hln
 have HR:=hid hR
 obtain ⟨w0,hw0⟩:∃ w0,w0=(w.alloc (.cells #[.int .u64 x,.int .u64 y] 41)).alloc (.cells #[.int .u64 x',.int .u64 y'] 41):=⟨_,rfl⟩
 have hb0:Below w.heap.size w w0:=by rw [hw0]; exact ((Below.refl _ w).alloc (Nat.le_refl _) _).alloc (by simp) _
 have HK0:Hid (BK (w.heap.size + 1) #[.int .u64 x',.int .u64 y'] 41 w0):=hid (by rw [hw0]; exact BK.new2 _ _ _ _)
 obtain ⟨w1,hw1⟩:∃ w1,w1=w0.alloc (.cells #[.int .u64 x,.int .u64 y] 41):=⟨_,rfl⟩
 have hz0:w0.heap.size=w.heap.size + 1 + 1:=by rw [hw0]; simp
 have hb1:Below w.heap.size w w1:=by rw [hw1]; exact hb0.alloc hb0.size _
 have HK1:Hid (BK (w.heap.size + 1) #[.int .u64 x',.int .u64 y'] 41 w1):=hid (by rw [hw1]; exact HK0.out.alloc _)
 have HC1:=hid (HAL.out w1 w0.heap.size hb1 (by rw [hw1]; exact BK.new _ _ _))
 rw [hz0,hw1,hw0] at HC1
 have HB1:=hid hb1
 have HW1:Hid (w1=((w.alloc (.cells #[.int .u64 x,.int .u64 y] 41)).alloc (.cells #[.int .u64 x',.int .u64 y'] 41)).alloc (.cells #[.int .u64 x,.int .u64 y] 41)):=hid (by rw [hw1,hw0])
 clear hw1 hw0 hz0 hb1 hb0 HK0 HAL hR hp hA hd hn
 generalize xs.length=nx at HC1 ⊢
 go_enter Tryz.func157,Tryz.ntmps157
 go_wp2_with fail
 (with_reducible refine (HC1.out).mono ?_)
 rintro e u ⟨la,lc,rfl,hdg,hlc,hb⟩
 simp only at hdg ⊢
 rw [<-HW1.out] at hb
 have HB2:=hid (HB1.out.trans (hb.mono HB1.out.size))
 have HK2:=hid (HK1.out.below hb)
 have HD2:=hid hdg
 clear hb hdg HC1 HW1 HB1 HK1
 by_cases he:er=0
 ·subst he
  have hl2:=hln rfl
  have HX:Hid (R=(decide ((x',y') ∈ l),0)):=hid (by rw [HR.out]; simp)
  have HIN:=hid (rin_any la l lc x' y' u HD2.out (by omega))
  obtain ⟨e0,e1⟩:=BK.c2 (show BK _ #[.int .u64 x',.int .u64 y'] _ _ from HK2.out)
  clear HR hln
  generalize l.length=nl at HIN hl2 ⊢
  go_wp2_with fail
  (with_reducible refine (HIN.out).mono ?_)
  rintro e u3 ⟨rfl,hb⟩
  have HB3:=hid (HB2.out.trans (hb.mono HB2.out.size))
  clear hb
  go_wp2_with fail
  go_ret2
  rw [HX.out]
  exact ⟨rfl,HB3.out⟩
 ·have hee:(er != 0)=true:=by simpa using he
  have HX:Hid (R=(false,er)):=hid (by rw [HR.out,if_pos he])
  clear HR hln he
  generalize l.length=nl
  go_wp2_with fail
  go_ret2
  rw [HX.out]
  exact ⟨rfl,HB2.out⟩
end Go.Proofs.YtfdahmicigpnoaaGreat
