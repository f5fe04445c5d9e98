/- The walk of the statement PackFind. -/
import Derived.Test.YtijkieiihpiljaaGreatPkLw
import Derived.Test.YtijkieiihpiljaaGreatPkPz
import Derived.Test.YtijkieiihpiljaaGreatPkFu
import Derived.Test.YtijkieiihpiljaaGreatP4
import Derived.Test.YtijkieiihpiljaaGreatK5
set_option maxRecDepth 100000
set_option maxHeartbeats 16000000
open Go.Lib (hid)
namespace Go.Proofs.YtijkieiihpiljaaGreat.packFind
open Go.RowKit Go.Shelf
set_option linter.unusedVariables false
theorem get_item {xs:List Itm} (ha:Asc xs) {x:Itm} (hx:x ∈ xs):getS xs x.d=decodeS x.data:=by
 obtain ⟨k,hk,rfl⟩:=List.getElem_of_mem hx
 have hh:hitB xs xs[k].d k=true:=by unfold hitB; rw [List.getElem?_eq_getElem hk]; simp
 obtain ⟨_,_,h⟩:=getS_hit (at_uniq ha hk rfl) hh
 exact h
theorem keep_len (xs:List Itm) (T:List Dg):(keepS xs T).length<=xs.length:=by unfold keepS; exact List.length_filter_le _ _
theorem keep_poolR {xs:List Itm} {m k:Nat} (hs:SmOk xs m k) {w:World} {a:Option Addr} {c:Nat} (hp:PoolCame w a xs c) (T:List Dg) {kc:Nat} (hk:(keepS xs T).length<=kc):PoolR (keepS xs T) kc:=by
 have hl:=keep_len xs T
 have hx:=hs.len
 exact ⟨asc_filter hs.asc _,fun x hx=>(chkI_parts (hs.chk x (keep_mem.1 hx).1)).1,fun x hx=>(hp.dat x (keep_mem.1 hx).1).1,by omega,fun x hx=>by have:=hs.dat x (keep_mem.1 hx).1; omega,hk⟩
theorem poolIn {xs:List Itm} {m k:Nat} (h:SmOk xs m k) {w:World} {a:Option Addr} {c:Nat} (hp:PoolCame w a xs c) {W:World} (hW:Below w.heap.size w W):PoolIn W a xs c:=
 ⟨hp.its.ahead hW,hp.cap.1,by have:=h.len; omega,fun x hx=>by have:=h.dat x hx; omega⟩
def endE (E:List Pe):Nat->Nat
 | 0=>0
 | i + 1=>match E[i]? with
  | some e=>e.off + e.len
  | none=>0
theorem endE_next {E:List Pe} {k:Nat} (h:k < E.length):endE E (k + 1)=E[k].off + E[k].len:=by simp only [endE]; rw [List.getElem?_eq_getElem h]
structure FiE (T:List UInt8) (xs QB:List Itm) (d:Dg) (e:Pe) (z:Nat) (t:List UInt8) (o:Ob):Prop where
 dg:e.d=d
 off:z < e.off
 hi:e.off + e.len + 16<=T.length
 knd:e.kind=0\/e.kind=1
 fnd:findP T QB d=(t,0)
 dec:decodeS t=(o,0)
 get:getS xs d=(o,0)
 enc:encodeS o=(t,0)
 tl:t.length<=500
 txt:e.kind=0->(T.drop e.off).take e.len=t
structure FiL (T:List UInt8) (xs QB:List Itm) (l:List Dg) (E:List Pe):Prop where
 ents:entriesS T=(E,0)
 len:E.length=l.length
 tlen:T.length<=10000
 at_:∀ i (h:i < l.length) (h':i < E.length),∃ t o,FiE T xs QB l[i] E[i] (endE E i) t o
theorem fi_law {xs:List Itm} {l base:List Dg} (h:SmOk xs l.length base.length) (he:(packS xs l base).2=0):∃ E,FiL (packS xs l base).1 xs (keepS xs base) l E:=by
 have hle:=pack_len (xs:=xs) (fun x hx=>by have:=h.dat x hx; omega) l base
 have hm:=h.m
 unfold packS at hle he ⊢
 by_cases hp:packE xs l base=0
 ·rw [if_neg (by simpa using hp)] at hle ⊢
  simp only at hle ⊢
  have g:=pack_good h.asc h.chk (fun x hx=>by have:=h.dat x hx; omega) hp
  obtain ⟨E,h1,h2,h3⟩:=pack_ents g
  have hok:=(entriesS_ok h1).1
  have hsl:(sealS (packB xs l base)).length=(packB xs l base).length + 16:=seal_len _
  have hsb:(sealS (packB xs l base)).take ((sealS (packB xs l base)).length - 16)=packB xs l base:=by
   rw [hsl,Nat.add_sub_cancel]; unfold sealS; exact List.take_left
  rw [hsb] at hok
  refine ⟨E,h1,h2,by omega,fun i hi hi'=>?_⟩
  obtain ⟨x,hx,hxd⟩:=g.inl l[i] (List.getElem_mem hi)
  obtain ⟨c1,c2⟩:=chkI_parts (h.chk x hx)
  obtain ⟨k,hk⟩:=hok.at_ _ (List.getElem_mem hi')
  obtain ⟨pa,pk⟩:=entryS_at hk
  have hei:=h3 i hi'
  have hd:decodeS x.data=((decodeS x.data).1,0):=Prod.ext rfl c1
  refine ⟨x.data,(decodeS x.data).1,?_,?_,?_,pa.kind,?_,hd,?_,(decode_good hd).1,h.dat x hx,fun h0=>?_⟩
  ·rw [hei.dg,getD_at hi]
  ·cases i with
   | zero=>simp only [endE]; have:=pa.off; omega
   | succ i=>
    simp only [endE]
    rw [List.getElem?_eq_getElem (by omega)]
    exact hok.up i hi'
  ·have:=pa.hi
   omega
  ·rw [pack_find g hi,<-hxd,datD_mem h.asc hx]
  ·rw [<-hxd,get_item h.asc hx]; exact hd
  ·have hcut:((sealS (packB xs l base)).drop E[i].off).take E[i].len=((packB xs l base).drop E[i].off).take E[i].len:=by unfold sealS; exact cut_left pa.hi
   rw [hcut]
   cases hc:chI xs l base i with
   | none=>
    rw [(hei.whole hc).2,getD_at hi,<-hxd,datD_mem h.asc hx]
   | some c=>rw [(hei.delta c hc).1] at h0; cases h0
 ·rw [if_pos hp] at he; exact absurd he hp
theorem walk (a:Option Addr) (xs:List Itm) (c:Nat) (la:Option Addr) (l:List (Int × Int)) (lc:Nat) (ba:Option Addr) (base:List (Int × Int)) (bc:Nat) (w:World) (hp:PoolCame w a xs c) (hl:Digs w.heap.size w la l) (hlc:l.length<=lc/\lc<=maxLen) (hlo:∀ d ∈ l,OkD d) (hb:Digs w.heap.size w ba base) (hbc:base.length<=bc/\bc<=maxLen) (hbo:∀ d ∈ base,OkD d) :
  Calls Tryz.prog 8 #[.slice a xs.length c,.slice la l.length lc,.slice ba base.length bc] w fun e w'=>e = .returned (.bool true)/\Below w.heap.size w w':=by
 have HAW:=hid awake10_any
 have HCS:=hid (small2_any hp la ba l.length base.length lc bc (by omega) (by omega))
 obtain ⟨b,hbs⟩:∃ b,b=sm2 xs l.length base.length:=⟨_,rfl⟩
 rw [<-hbs] at HCS
 cases b with
 | false=>
  clear hbs hl hb hlo hbo hp
  generalize xs.length=n at HCS ⊢
  generalize l.length=m at hlc HCS ⊢
  generalize base.length=k at hbc HCS ⊢
  clear hlc hbc
  go_enter Tryz.func8,Tryz.ntmps8
  go_wp2_with fail
  (with_reducible refine (HCS.out).mono ?_)
  rintro e u ⟨rfl,hb⟩
  have HB1:=hid hb
  have HC:=hid (HAW.out u)
  clear hb
  go_wp2_with fail
  (with_reducible refine (HC.out).mono ?_)
  rintro e u2 ⟨rfl,hb⟩
  have HB2:=hid (HB1.out.trans (hb.mono HB1.out.size))
  clear hb HC
  go_wp2_with fail
  go_ret
  exact ⟨rfl,HB2.out⟩
 | true=>
  have hsm:=sm2_ok hbs.symm
  have HP1:=hid (fun W (hW:Below w.heap.size w W)=>pack_any (lc:=lc) (bc:=bc) (hsm.pool hp) (hp.its.ahead hW) (hl.ahead hW) (hb.ahead hW) hlo hbo (by have:=hsm.m; omega) (by have:=hsm.k; omega))
  have HKB:=hid (fun W (hW:Below w.heap.size w W)=>keep_any a xs c ba base bc W (poolIn hsm hp hW) (hb.ahead hW) hbo (fun x hx=>(hp.dat x hx).1) (by have:=hsm.k; omega))
  have HGE:=hid (fun W x y (hW:Below w.heap.size w W)=>get_any a xs c x y W (poolIn hsm hp hW) hsm.asc)
  have HFI:=hid (fun T W ka kc x y (hT:(List.length T:Int)<=70368744177664) (hi:Its W.heap.size W ka (keepS xs base)) (hc:(keepS xs base).length<=kc) (hok:OkD (x,y))=>pfind_any T (keepS xs base) ka kc x y W hT hi (keep_poolR hsm hp base hc) hok)
  have HLW:=hid (fi_law hsm)
  have HDL:Hid (∀ W,Below w.heap.size w W->Digs W.heap.size W la l):=hid (fun W hW=>hl.ahead hW)
  have HOK:=hid hlo
  generalize packS xs l base=R1 at HP1 HLW
  obtain ⟨T,e1⟩:=R1
  simp only at HP1 HLW
  have hm8:=hsm.m
  clear hbs hl hb hlo hbo hp hsm hlc hbc
  obtain ⟨n,hn⟩:∃ n,n=xs.length:=⟨_,rfl⟩
  obtain ⟨m,hm⟩:∃ n,n=l.length:=⟨_,rfl⟩
  generalize base.length=kb at HCS HP1 HKB ⊢
  rw [<-hn,<-hm] at HCS HP1
  rw [<-hn] at HKB HGE
  rw [<-hn,<-hm]
  rw [<-hm] at hm8
  have HNM:=hid hm
  clear hn hm
  obtain ⟨QB,hQB⟩:∃ QB,QB=keepS xs base:=⟨_,rfl⟩
  rw [<-hQB] at HKB HFI HLW
  clear hQB
  go_enter Tryz.func8,Tryz.ntmps8
  go_wp2_with fail
  (with_reducible refine (HCS.out).mono ?_)
  rintro e u ⟨rfl,hb⟩
  have HB1:=hid hb
  have HC:=hid (HP1.out u hb)
  clear hb HCS HP1
  go_wp2_with fail
  (with_reducible refine (HC.out).mono ?_)
  rintro e v ⟨rfl,hb⟩
  have HB2:=hid (HB1.out.trans (hb.mono HB1.out.size))
  clear hb HC HB1
  by_cases h0:e1=0
  case neg=>
   have hbq:(e1 != 0)=true:=by simpa using h0
   have HC:=hid (HAW.out v)
   clear h0 HLW HKB HGE HFI
   go_wp2_with fail
   (with_reducible refine (HC.out).mono ?_)
   rintro e u2 ⟨rfl,hb⟩
   have HB3:=hid (HB2.out.trans (hb.mono HB2.out.size))
   clear hb HC
   go_wp2_with fail
   go_ret
   exact ⟨rfl,HB3.out⟩
  case pos=>
  subst h0
  obtain ⟨E,hF⟩:=HLW.out rfl
  have HF:=hid hF
  have hT:(T.length:Int)<=70368744177664:=by have:=hF.tlen; omega
  have HC:=hid (entries_any T v hT)
  rw [hF.ents] at HC
  unfold GotE at HC
  simp only at HC
  have HT:=hid hT
  have hel:=hF.len
  rw [<-HNM.out] at hel
  rw [hel] at HC
  have HEL:=hid hel
  clear hF hel hT HLW
  go_wp2_with fail
  (with_reducible refine (HC.out).mono ?_)
  rintro e u1 ⟨ea,ec,rfl,hg,hb⟩
  have HB3:=hid (HB2.out.trans (hb.mono HB2.out.size))
  have HG3:=hid hg
  clear hb hg HC HB2
  have hmq:((m:Int) != (m:Int))=false:=by simp
  go_wp2_with fail
  go_loopw [11,57] (fun z i wr=>∃ (k zz:Nat),k<=m/\i = .int .i64 (k:Int)/\z = .int .i64 (zz:Int)/\Hid (zz=endE E k)/\Hid (GIn peCs 7 wr.heap.size wr ea E)/\Hid (Below w.heap.size w wr)) (fun _ i _=>m - (intOf i).toNat)
  case atStart=>exact ⟨0,0,by omega,rfl,rfl,hid rfl,HG3,HB3⟩
  case round=>
   clear HG3 HB3
   obtain ⟨k,zz,hk,rfl,rfl,HZ,HG,HB⟩:=hrel
   by_cases hlt:k < m
   case neg=>
    obtain rfl:k=m:=by omega
    have hkn:¬ (k:Int) < (k:Int):=by omega
    have HC:=hid (HAW.out wr)
    clear HKB HGE HFI HF HAW
    go_wp2_with fail
    (with_reducible refine (HC.out).mono ?_)
    rintro e u2 ⟨rfl,hb⟩
    have HB3:=hid (HB.out.trans (hb.mono HB.out.size))
    clear hb HC
    go_wp2_with fail
    go_ret
    exact ⟨rfl,HB3.out⟩
   case pos=>
   have hki:(k:Int) < (m:Int):=by omega
   have hkl:k < l.length:=by rw [<-HNM.out]; exact hlt
   have hke:k < E.length:=by rw [HEL.out]; exact hlt
   obtain ⟨t,o,hfe⟩:=HF.out.at_ k hkl hke
   obtain ⟨kind,data,ents,⟨t1,t2⟩,pars,author,time,msg⟩:=o
   rw [<-HZ.out] at hfe
   have hen:=endE_next hke
   obtain ⟨bl,ofl,hea,hblt,q0,q1,q2,q3,q4,q5,q6⟩:=pe_cells HG.out hke
   obtain ⟨lb,lo,hla,hlbt,c0,c1⟩:=HDL.out wr HB.out k hkl
   have hok:=HOK.out _ (List.getElem_mem hkl)
   obtain ⟨v,hv⟩:∃ v,v=wr.alloc (.cells (peCs E[k]).toArray 53):=⟨_,rfl⟩
   have hbv:Below wr.heap.size wr v:=by rw [hv]; exact (Below.refl _ _).alloc (Nat.le_refl _) _
   have hbe:BK wr.heap.size (peCs E[k]).toArray 53 v:=by rw [hv]; exact BK.new _ _ _
   have HLC:Hid (∀ W,Below wr.heap.size wr W->W.cell? ⟨lb,lo + k * 2,none⟩=some (.int .u64 l[k].1)/\W.cell? ⟨lb,lo + k * 2 + 1,none⟩=some (.int .u64 l[k].2)):=hid (fun W hW=>⟨(hW.cell (p:=⟨lb,lo + k * 2,none⟩) hlbt).trans c0,(hW.cell (p:=⟨lb,lo + k * 2 + 1,none⟩) hlbt).trans c1⟩)
   generalize E[k]=x at *
   generalize l[k]=dl at *
   obtain ⟨⟨d1,d2⟩,kd,⟨b1,b2⟩,off,len⟩:=x
   obtain ⟨l1,l2⟩:=dl
   simp only [peCs] at q0 q1 q2 q3 q4 q5 q6 hv hbe hen
   have hdd:=hfe.dg
   simp only at hdd
   cases hdd
   have HFE:=hid hfe
   have HEN:=hid hen
   have HBE:=hid hbe
   have HBV:=hid hbv
   have HV:=hid hv
   have hcv:=HLC.out v hbv
   have HBW:=hid (HB.out.trans (hbv.mono HB.out.size))
   have HGV:=hid (HG.out.ahead hbv)
   have HOKD:=hid hok
   rw [hea]
   rw [hla] at *
   obtain ⟨nb,hnb⟩:∃ nb,nb=QB.length:=⟨_,rfl⟩
   have HNB:=hid hnb
   have HKC:=hid (HKB.out v.drew HBW.out.drew)
   unfold GotP at HKC
   rw [<-hnb] at HKC
   have HTW:Hid (∀ X,Below v.heap.size v X->Below wr.heap.size wr X):=hid (fun X h=>HBV.out.trans (h.mono HBV.out.size))
   clear hfe hen hbe hbv hv hkl hke HG hok c0 c1 hnb
   go_wp2_with fail
   rw [<-HV.out]
   clear q0 q1 q2 q3 q4 q5 q6 HV
   obtain ⟨v0,hv0⟩:∃ v0,v0=v.drew:=⟨_,rfl⟩
   refine wp_region_held_drew (S:=(fun W=>W.cell? ⟨lb,lo + k * 2,none⟩=some (.int .u64 d1)/\W.cell? ⟨lb,lo + k * 2 + 1,none⟩=some (.int .u64 d2))) (by kernel_rfl) hcv (fun hHeld=>?_)
   refine wpAnyH_take (i:=0) (v:=?vv1) rfl (by kernel_rfl) (by kernel_rfl) (by kernel_rfl) (fun _ _ _ h=>h) (Or.inl ⟨by rfl,?hy1⟩) (by assumption) ?rest1
   case hy1=>(intro wx hSw; (try dsimp only at hSw); go_simp; try (with_reducible rfl))
   simp only [Act.put,zA,zC,zD,zE,zF]
   refine wpAnyH_take (i:=1) (v:=?vv2) rfl (by kernel_rfl) (by kernel_rfl) (by kernel_rfl) (fun _ _ _ h=>h) (Or.inl ⟨by rfl,?hy2⟩) (by assumption) ?rest2
   case hy2=>(intro wx hSw; (try dsimp only at hSw); go_simp; try (with_reducible rfl))
   simp only [Act.put,zA,zB,zC,zD,zE,zF]
   refine wpAnyH_take (i:=2) (v:=?vv3) rfl (by kernel_rfl) (by kernel_rfl) (by kernel_rfl) (fun _ _ _ h=>h) (Or.inl ⟨by rfl,?hy3⟩) (by assumption) ?rest3
   case hy3=>(intro wx hSw; (try dsimp only at hSw); go_simp; try (with_reducible rfl))
   simp only [Act.put,zA,zB,zC,zD,zE,zF]
   refine wpAnyH_take (i:=3) (v:=?vv4) rfl (by kernel_rfl) (by kernel_rfl) (by kernel_rfl) (fun _ _ _ h=>h) (Or.inl ⟨by rfl,?hy4⟩) (by assumption) ?rest4
   case hy4=>(intro wx hSw; (try dsimp only at hSw); go_simp; try (with_reducible rfl))
   simp only [Act.put,zA,zB,zC,zD,zE,zF]
   refine wpAnyH_take (i:=4) (v:=?vv5) rfl (by kernel_rfl) (by kernel_rfl) (by kernel_rfl) (fun _ _ _ h=>h) (Or.inl ⟨by rfl,?hy5⟩) (by assumption) ?rest5
   case hy5=>(intro wx hSw; (try dsimp only at hSw); go_simp; try (with_reducible rfl))
   simp only [Act.put,zA,zB,zC,zD,zE,zF]
   refine wpAnyH_take (i:=5) (v:=?vv6) rfl (by kernel_rfl) (by kernel_rfl) (by kernel_rfl) (fun _ _ _ h=>h) (Or.inl ⟨by rfl,?hy6⟩) (by assumption) ?rest6
   case hy6=>(intro wx hSw; (try dsimp only at hSw); go_simp; try (with_reducible rfl))
   simp only [Act.put,zA,zB,zC,zD,zE,zF]
   refine wpAnyH_take (i:=6) (v:=?vv7) rfl (by kernel_rfl) (by kernel_rfl) (by kernel_rfl) (fun _ _ _ h=>h) (Or.inl ⟨by rfl,?hy7⟩) (by assumption) ?rest7
   case hy7=>(intro wx hSw; (try dsimp only at hSw); go_simp; try (with_reducible rfl))
   simp only [Act.put,zA,zB,zC,zD,zE,zF]
   refine wpAnyH_ready (rs:=[7]) (by kernel_rfl) (by simp) ?_
   refine AllReadyH.cons rfl (fun K hK=>?_) AllReadyH.nil
   go_simp
   (with_reducible refine (HKC.out).mono ?_)
   rintro e u2 ⟨ka,kc,rfl,hi,hc,_,hb⟩
   have hb2:Below v.heap.size v u2:=((Below.refl _ v).drew).trans (hb.mono (Nat.le_refl _))
   have hc2:=HLC.out u2 (HTW.out _ hb2)
   have HFC:=hid (HFI.out T u2 ka kc d1 d2 HT.out hi hc HOKD.out)
   rw [HFE.out.fnd,<-HNB.out] at HFC
   simp only at HFC
   refine hK.out _ _ (hc2) (fun hHeld=>?_)
   clear hK K
   refine wpAnyH_ready (rs:=[8]) (by kernel_rfl) (by simp) ?_
   refine AllReadyH.cons rfl (fun K hK=>?_) AllReadyH.nil
   go_simp
   (with_reducible refine (HFC.out).mono ?_)
   rintro e u3 ⟨rfl,hb3⟩
   have hb4:Below v.heap.size v u3:=hb2.trans (hb3.mono hb2.size)
   refine hK.out _ _ (HLC.out u3 (HTW.out _ hb4)) (fun hHeld=>?_)
   clear hK K
   refine wpAnyH_take (i:=9) (v:=?vv8) rfl (by kernel_rfl) (by kernel_rfl) (by kernel_rfl) (fun _ _ _ h=>h) (Or.inl ⟨by rfl,?hy8⟩) (by assumption) ?rest8
   case hy8=>(intro wx hSw; (try dsimp only at hSw); go_simp; try (with_reducible rfl))
   simp only [Act.put,zA,zB,zC,zD,zE,zF]
   refine wpAnyH_take (i:=10) (v:=?vv9) rfl (by kernel_rfl) (by kernel_rfl) (by kernel_rfl) (fun _ _ _ h=>h) (Or.inl ⟨by rfl,?hy9⟩) (by assumption) ?rest9
   case hy9=>(intro wx hSw; (try dsimp only at hSw); go_simp; try (with_reducible rfl))
   simp only [Act.put,zA,zB,zC,zD,zE,zF]
   refine wpAnyH_take (i:=11) (v:=?vv10) rfl (by kernel_rfl) (by kernel_rfl) (by kernel_rfl) (fun _ _ _ h=>h) (Or.inl ⟨by rfl,?hy10⟩) (by assumption) ?rest10
   case hy10=>(intro wx hSw; (try dsimp only at hSw); go_simp; try (with_reducible rfl))
   simp only [Act.put,zA,zB,zC,zD,zE,zF]
   refine wpAnyH_take (i:=12) (v:=?vv11) rfl (by kernel_rfl) (by kernel_rfl) (by kernel_rfl) (fun _ _ _ h=>h) (Or.inl ⟨by rfl,?hy11⟩) (by assumption) ?rest11
   case hy11=>(intro wx hSw; (try dsimp only at hSw); go_simp; try (with_reducible rfl))
   simp only [Act.put,zA,zB,zC,zD,zE,zF]
   refine wpAnyH_take (i:=13) (v:=?vv12) rfl (by kernel_rfl) (by kernel_rfl) (by kernel_rfl) (fun _ _ _ h=>h) (Or.inl ⟨by rfl,?hy12⟩) (by assumption) ?rest12
   case hy12=>(intro wx hSw; (try dsimp only at hSw); go_simp; try (with_reducible rfl))
   simp only [Act.put,zA,zB,zC,zD,zE,zF]
   refine wpAnyH_done (by kernel_rfl) ?_ _
   have hdc:=decode_any t u3 (by have:=HFE.out.tl; omega)
   rw [HFE.out.dec] at hdc
   unfold GotO at hdc
   simp only [Ob.val] at hdc
   obtain ⟨ne,hne⟩:∃ n,n=ents.length:=⟨_,rfl⟩
   obtain ⟨np,hnp⟩:∃ n,n=pars.length:=⟨_,rfl⟩
   rw [<-hne,<-hnp] at hdc
   have HDC:=hid hdc
   have HNE:=hid hne
   have HNP:=hid hnp
   have HB4:=hid hb4
   clear hdc hne hnp hc2 hcv hi hc hb hb2 hb3 hb4 HKC HFC
   go_wp2_with fail
   (with_reducible refine (HDC.out).mono ?_)
   rintro e u4 ⟨ea',ec',pa',pc',rfl,hob,hb⟩
   have hb5:Below v.heap.size v u4:=HB4.out.trans (hb.mono HB4.out.size)
   obtain ⟨v5,hv5⟩:∃ v5,v5=u4.alloc (.cells #[.int .i64 kind,.string ⟨data.toArray⟩,.slice ea' ne ec',.int .u64 t1,.int .u64 t2,.slice pa' np pc',.string ⟨author.toArray⟩,.int .i64 time,.string ⟨msg.toArray⟩] 56):=⟨_,rfl⟩
   have hb5v:Below u4.heap.size u4 v5:=by rw [hv5]; exact (Below.refl _ _).alloc (Nat.le_refl _) _
   have HK5:Hid (BK u4.heap.size #[.int .i64 kind,.string ⟨data.toArray⟩,.slice ea' ne ec',.int .u64 t1,.int .u64 t2,.slice pa' np pc',.string ⟨author.toArray⟩,.int .i64 time,.string ⟨msg.toArray⟩] 56 v5):=hid (by rw [hv5]; exact BK.new _ _ _)
   have HO5:=hid (hob.below hb5v)
   have HB5:=hid (hb5.trans (hb5v.mono hb5.size))
   obtain ⟨c5,c6⟩:=HLC.out v5 (HTW.out _ HB5.out)
   have hwr:=HB.out.trans ((HTW.out _ HB5.out).mono HB.out.size)
   have hgc:=HGE.out v5 d1 d2 hwr
   rw [HFE.out.get] at hgc
   unfold GotO at hgc
   simp only [Ob.val] at hgc
   rw [<-HNE.out,<-HNP.out] at hgc
   rw [hv5] at c5 c6 hgc
   have HGC:=hid hgc
   have HV5:=hid hv5
   have hk5:=HB5.out.size
   clear hv5 hgc hb hb5 hb5v hob HDC HB4 hwr
   go_wp2_with fail
   (with_reducible refine (HGC.out).mono ?_)
   rintro e u6 ⟨fa,fc,ga,gc,rfl,hob,hb⟩
   rw [<-HV5.out] at hb
   have hb6:Below v.heap.size v u6:=HB5.out.trans (hb.mono HB5.out.size)
   obtain ⟨v7,hv7⟩:∃ v7,v7=u6.alloc (.cells #[.int .i64 kind,.string ⟨data.toArray⟩,.slice fa ne fc,.int .u64 t1,.int .u64 t2,.slice ga np gc,.string ⟨author.toArray⟩,.int .i64 time,.string ⟨msg.toArray⟩] 56):=⟨_,rfl⟩
   have hb7v:Below u6.heap.size u6 v7:=by rw [hv7]; exact (Below.refl _ _).alloc (Nat.le_refl _) _
   have HK7:Hid (BK u6.heap.size #[.int .i64 kind,.string ⟨data.toArray⟩,.slice fa ne fc,.int .u64 t1,.int .u64 t2,.slice ga np gc,.string ⟨author.toArray⟩,.int .i64 time,.string ⟨msg.toArray⟩] 56 v7):=hid (by rw [hv7]; exact BK.new _ _ _)
   have HO7:=hid (hob.below hb7v)
   have hb57:Below v5.heap.size v5 v7:=hb.trans (hb7v.mono hb.size)
   have HK57:=hid (HK5.out.below hb57)
   have HO57:=hid (HO5.out.below hb57)
   have HB7:=hid (hb6.trans (hb7v.mono hb6.size))
   have HE7:=hid (HBE.out.below HB7.out)
   have HV7:=hid hv7
   clear hv7 hb hb6 hb7v hob HGC HB5 HK5 HO5 c5 c6 hb57 HV5 HBE
   go_wp2_with fail
   rw [<-HV7.out]
   clear HV7
   obtain ⟨r0,r1⟩:=HLC.out v7 (HTW.out _ HB7.out)
   obtain ⟨e0,e1,e2,e3,e4,e5,e6⟩:=BK.c7 (show BK _ #[.int .u64 d1,.int .u64 d2,.int .i64 kd,.int .u64 b1,.int .u64 b2,.int .i64 (off:Int),.int .i64 (len:Int)] _ _ from HE7.out)
   have r0:=cell_regrown r0
   have r1:=cell_regrown r1
   have s0:=cell_regrown e0
   have s1:=cell_regrown e1
   have s5:=cell_regrown e5
   have s6:=cell_regrown e6
   obtain ⟨tl,htl⟩:∃ tl,tl=T.length:=⟨_,rfl⟩
   have hsz:=ba_len T
   rw [<-htl] at hsz
   have hTl:=HF.out.tlen
   have hT1:=HFE.out.off
   have hT2:=HFE.out.hi
   simp only at hT1 hT2
   rw [<-htl] at hTl hT2
   have HTL:=hid htl
   have w1:IntKind.i64.wrap ((tl:Int) - 16)=(tl:Int) - 16:=wrap_i64 (by omega) (by omega)
   have w2:IntKind.i64.wrap ((tl:Int) - 16 - (off:Int))=(tl:Int) - 16 - (off:Int):=wrap_i64 (by omega) (by omega)
   have D1:decide ((off:Int)<=(zz:Int))=false:=by simp; omega
   have D1n:decide (off<=zz)=false:=by simp; omega
   have D2:decide ((len:Int) < 0)=false:=by simp
   have D3:decide ((tl:Int) - 16 - (off:Int) < (len:Int))=false:=by simp; omega
   have hnq:∀ W,(binOp .neq 41 (.agg #[.int .u64 d1,.int .u64 d2]) (.agg #[.int .u64 d1,.int .u64 d2])).run Tryz.prog W = .ok (.bool false) W:=fun W=>by rw [neq_dig]; simp
   obtain ⟨en,hen⟩:∃ en,en=off + len:=⟨_,rfl⟩
   have w3:IntKind.i64.wrap ((off:Int) + (len:Int))=(en:Int):=by rw [wrap_i64 (by omega) (by omega)]; omega
   have HSL:Hid (kd=0->∀ W,(Instr.slice 9 (.string ⟨T.toArray⟩) (some (.int .i64 (off:Int))) (some (.int .i64 (en:Int))) none).run Tryz.prog W = .ok (.string ⟨t.toArray⟩) W):=hid (fun h0 W=>by
    rw [sl_mid T off en (by omega) (by omega) W,show en - off=len by omega,HFE.out.txt h0])
   have HEN2:Hid (endE E (k + 1)=en):=hid (by rw [HEN.out,hen])
   have hkd:=HFE.out.knd
   simp only at hkd
   have hbe:off<=en/\en<=tl:=⟨by omega,by omega⟩
   clear htl hTl hT1 hT2 e0 e1 e2 e3 e4 e5 e6 hen
   refine wp_region_quiet_below (by kernel_rfl) (by kernel_rfl) ?_
   repeat (any_goals (first | go_big_quiet_step (fail) | quiet_step (fail)))
   refine wpQuiet_nil ?_
   intro w8 hw8
   have hb8:=below_rg hw8
   clear hw8 hnq w1 w2 D1 D1n D2 D3 r0 r1 s0 s1 s5 s6
   have HK8:=hid (HK57.out.below hb8)
   have HK8':=hid (HK7.out.below hb8)
   have HO8:=HO57.out.below hb8
   have HO8':=hid (HO7.out.below hb8)
   have HE8:=hid (HE7.out.below hb8)
   have HB8:=hid (HB7.out.trans (hb8.mono HB7.out.size))
   have hec:=encode_any ⟨kind,data,ents,(t1,t2),pars,author,time,msg⟩ ea' ec' pa' pc' w8 HO8.inn
   rw [HFE.out.enc] at hec
   simp only [Ob.val] at hec
   rw [<-HNE.out,<-HNP.out] at hec
   have HEC:=hid hec
   obtain ⟨o0,o1,o2,o3,o4,o5,o6,o7,o8⟩:=BK.c9 (show BK _ #[.int .i64 kind,.string ⟨data.toArray⟩,.slice ea' ne ec',.int .u64 t1,.int .u64 t2,.slice pa' np pc',.string ⟨author.toArray⟩,.int .i64 time,.string ⟨msg.toArray⟩] _ _ from HK8.out)
   clear hb8 hec HO8 HK57 HK7 HO57 HO7 HE7 HB7
   go_wp2_with fail
   clear o0 o1 o2 o3 o4 o5 o6 o7 o8
   (with_reducible refine (HEC.out).mono ?_)
   rintro e u9 ⟨rfl,hb⟩
   have HE9:=hid (HE8.out.below hb)
   have HB9:=hid (HB8.out.trans (hb.mono HB8.out.size))
   have hk9:=HK8'.out.below hb
   have ho9:=HO8'.out.below hb
   have hec:=encode_any ⟨kind,data,ents,(t1,t2),pars,author,time,msg⟩ fa fc ga gc u9 ho9.inn
   rw [HFE.out.enc] at hec
   simp only [Ob.val] at hec
   rw [<-HNE.out,<-HNP.out] at hec
   have HEC2:=hid hec
   obtain ⟨o0,o1,o2,o3,o4,o5,o6,o7,o8⟩:=BK.c9 (show BK _ #[.int .i64 kind,.string ⟨data.toArray⟩,.slice fa ne fc,.int .u64 t1,.int .u64 t2,.slice ga np gc,.string ⟨author.toArray⟩,.int .i64 time,.string ⟨msg.toArray⟩] _ _ from hk9)
   clear hb hec ho9 hk9 HK8 HK8' HO8' HE8 HB8 HEC
   go_wp2_with fail
   clear o0 o1 o2 o3 o4 o5 o6 o7 o8
   (with_reducible refine (HEC2.out).mono ?_)
   rintro e u10 ⟨rfl,hb⟩
   have HE10:=hid (HE9.out.below hb)
   have HB10:=hid (HB9.out.trans (hb.mono HB9.out.size))
   clear hb HE9 HB9 HEC2
   obtain ⟨e0,e1,e2,e3,e4,e5,e6⟩:=BK.c7 (show BK _ #[.int .u64 d1,.int .u64 d2,.int .i64 kd,.int .u64 b1,.int .u64 b2,.int .i64 (off:Int),.int .i64 (len:Int)] _ _ from HE10.out)
   have htt:(t == t)=true:=by simp
   have HG10:Hid (GIn peCs 7 u10.heap.size u10 ea E):=hid (HGV.out.ahead HB10.out)
   have HBF:=hid (HB.out.trans ((HTW.out _ HB10.out).mono HB.out.size))
   have HZ2:Hid (en=endE E (k + 1)):=hid HEN2.out.symm
   rw [hea] at HG10
   clear HGV HBW HTW HE10 HB10 HEN2 e0 e1 e3 e4
   rcases hkd with rfl | rfl
   ·have hsl:=HSL.out rfl
    clear HSL HFE HEN
    go_wp2_with fail
    go_roundw
    case rel=>exact ⟨k + 1,en,by omega,by go_num,rfl,HZ2,HG10,HBF⟩
    case measure=>simp [intOf] <;> omega
   ·clear HSL HFE HEN
    go_wp2_with fail
    go_roundw
    case rel=>exact ⟨k + 1,en,by omega,by go_num,rfl,HZ2,HG10,HBF⟩
    case measure=>simp [intOf] <;> omega
end Go.Proofs.YtijkieiihpiljaaGreat.packFind
