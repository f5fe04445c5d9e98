/- The walk of the statement PackSeal. -/
import Derived.Test.YtijkieiihpiljaaGreatPkLw
import Derived.Test.YtijkieiihpiljaaGreatPkPz
import Derived.Test.YtijkieiihpiljaaGreatPkSe
import Derived.Test.YtijkieiihpiljaaGreatPkCh
import Derived.Laws.IdiomStrings
set_option maxRecDepth 100000
set_option maxHeartbeats 16000000
open Go.Lib (hid)
namespace Go.Proofs.YtijkieiihpiljaaGreat.packSeal
open Go.RowKit Go.Shelf
set_option linter.unusedVariables false
theorem conv (s:List UInt8) (W:World):(convert 9 34 (.string ⟨s.toArray⟩)).run Tryz.prog W = .ok (.slice (some ⟨W.heap.size,0,none⟩) s.length (grownCap W s.length 0 5))
  (W.drew.alloc (.cells (bytesRow ⟨s.toArray⟩ (grownCap W s.length 0 5)) 5 ((bytesRow ⟨s.toArray⟩ (grownCap W s.length 0 5)).size,(bytesRow ⟨s.toArray⟩ (grownCap W s.length 0 5)).size + 1))):=
 run_bytes_of_string W 9 34 5 ⟨s.toArray⟩ Tryz.underlying9 Tryz.underlying34 Tryz.underlying5
structure BytesAt (T:List UInt8) (b:Nat) (W:World):Prop where
 cell:∀ j (h:j < T.length),W.cell? ⟨b,j,none⟩=some (.int .u8 (T[j].toNat:Int))
 frozen:∀ j,j < T.length->W.frozen? ⟨b,j,none⟩=false
theorem bytes_new (s:List UInt8) (W:World) (cap:Nat):BytesAt s W.heap.size (W.drew.alloc (.cells (bytesRow ⟨s.toArray⟩ cap) 5 ((bytesRow ⟨s.toArray⟩ cap).size,(bytesRow ⟨s.toArray⟩ cap).size + 1))):=by
 have hh:(W.drew.alloc (.cells (bytesRow ⟨s.toArray⟩ cap) 5 ((bytesRow ⟨s.toArray⟩ cap).size,(bytesRow ⟨s.toArray⟩ cap).size + 1))).heap[W.heap.size]? = some (.cells (bytesRow ⟨s.toArray⟩ cap) 5 ((bytesRow ⟨s.toArray⟩ cap).size,(bytesRow ⟨s.toArray⟩ cap).size + 1)):=by
  show (W.heap.push _)[W.heap.size]? = _
  simp
 have hz:s.length<=(bytesRow ⟨s.toArray⟩ cap).size:=by unfold bytesRow; simp
 have hr:∀ j (h:j < s.length),(bytesRow ⟨s.toArray⟩ cap)[j]? = some (.int .u8 (s[j].toNat:Int)):=fun j h=>by
  unfold bytesRow
  rw [Array.getElem?_append_left (by simpa using h)]
  simp [h]
 generalize bytesRow ⟨s.toArray⟩ cap=C at *
 refine ⟨fun j h=>?_,fun j h=>?_⟩
 ·unfold World.cell?
  rw [hh]
  simp only
  rw [if_neg (by simp)]
  exact hr j h
 ·unfold World.frozen?
  rw [hh]
  simp only [Bool.and_eq_false_iff,decide_eq_false_iff_not]
  left
  omega
theorem BytesAt.set {T:List UInt8} {b:Nat} {W:World} (h:BytesAt T b W) (i:Nat) (c:UInt8) (hi:i < T.length):BytesAt (T.set i c) b ((W.setCell ⟨b,i,none⟩ (.int .u8 (c.toNat:Int)))):=by
 refine ⟨fun j hj=>?_,fun j hj=>?_⟩
 ·rw [List.length_set] at hj
  by_cases e:i=j
  ·subst e
   rw [World.cell?_setCell_same _ _ _ (h.cell i hi),List.getElem_set_self]
  ·rw [World.cell?_setCell_other _ _ _ _ (by intro h; cases h; exact e rfl),h.cell j hj,List.getElem_set_ne e]
 ·rw [List.length_set] at hj
  rw [World.frozen?_setCell]
  exact h.frozen j hj
theorem back (l:List UInt8) (b cap:Nat) (W:World) (h:BytesAt l b W):(convert 34 9 (.slice (some ⟨b,0,none⟩) l.length cap)).run Tryz.prog W = .ok (.string ⟨l.toArray⟩) W:=
 run_convert_bytes_back W 34 9 5 ⟨b,0,none⟩ cap l Tryz.underlying34 Tryz.underlying5 Tryz.underlying9 (fun j hj=>by
  rw [Go.WideShapes.add_plain,Nat.zero_add]
  exact h.cell j hj)
theorem other {c:UInt8} {y:Int} (h0:0<=y) (h1:y<=255) (h:y ≠ 0):∃ c':UInt8,bits .xor .u8 (c.toNat:Int) y=(c'.toNat:Int)/\c' ≠ c:=by
 have hc:=c.toNat_lt
 have h2:c.toNat ^^^ y.toNat < 2 ^ 8:=Nat.xor_lt_two_pow (by omega) (by omega)
 refine ⟨UInt8.ofNat (c.toNat ^^^ y.toNat),?_,fun e=>?_⟩
 ·rw [u8_xor _ _ (by omega) (by omega) h0 (by omega),Int.toNat_natCast,UInt8.toNat_ofNat_of_lt' (by omega)]
 ·have h3:=congrArg UInt8.toNat e
  rw [UInt8.toNat_ofNat_of_lt' (by omega)] at h3
  have h4:y.toNat ^^^ c.toNat=0 ^^^ c.toNat:=by rw [Nat.xor_comm,h3,Nat.zero_xor]
  have h5:=xor_right h4
  omega
theorem walk (a:Option Addr) (xs:List Itm) (c:Nat) (la:Option Addr) (l:List (Int × Int)) (lc:Nat) (at_ y:Int) (w:World) (hp:PoolCame w a xs c) (hl:Digs w.heap.size w la l) (hlc:l.length<=lc/\lc<=maxLen) (hlo:∀ d ∈ l,OkD d) (hat:0<=at_/\at_<=65535) (hy:0<=y/\y<=255) :
  Calls Tryz.prog 4 #[.slice a xs.length c,.slice la l.length lc,.agg #[.int .u16 at_,.int .u8 y]] w fun e w'=>e = .returned (.bool true)/\Below w.heap.size w w':=by
 have HAW:=hid awake10_any
 obtain ⟨w0,hw0⟩:∃ w0,w0=w.alloc (.cells #[.int .u16 at_,.int .u8 y] 33):=⟨_,rfl⟩
 have hb0:Below w.heap.size w w0:=by rw [hw0]; exact (Below.refl _ _).alloc (Nat.le_refl _) _
 have HX0:Hid (BK w.heap.size #[.int .u16 at_,.int .u8 y] 33 w0):=hid (by rw [hw0]; exact BK.new _ _ _)
 have hz0:w0.heap.size=w.heap.size + 1:=by rw [hw0]; simp
 have hp0:PoolCame w0 a xs c:=⟨hp.its.ahead hb0,hp.cap,hp.dat⟩
 have HCS:=hid (small1_any hp0 la l.length lc (by omega))
 rw [hz0,hw0] at HCS
 have HP1:=hid (fun (hs:sm2 xs l.length 0=true) W (hW:Below w.heap.size w W)=>show Calls Tryz.prog 12 #[.slice a xs.length c,.slice la l.length lc,.slice none 0 0] W _ from pack_any (base:=[]) (bc:=0) ((sm2_ok hs).pool hp) (hp.its.ahead hW) (hl.ahead hW) (Digs.nil _ _ none) hlo (fun d hd=>by simp at hd) (by have:=(sm2_ok hs).m; omega) (by simp))
 obtain ⟨b,hbs⟩:∃ b,b=sm2 xs l.length 0:=⟨_,rfl⟩
 have HLW:Hid (b=true->(packS xs l []).2=0->16<=(packS xs l []).1.length/\(packS xs l []).1.length<=10000/\∀ j c x,(packS xs l []).1[j]? = some x->c ≠ x->entriesS ((packS xs l []).1.set j c)=([],14)):=hid (fun hb he=>by
  rw [hbs] at hb
  have hs:=sm2_ok hb
  have hle:=pack_len (xs:=xs) (fun x hx=>by have:=hs.dat x hx; omega) l []
  have hm:=hs.m
  have hps:packS xs l []=(sealS (packB xs l []),0):=by
   unfold packS at he ⊢
   by_cases h:packE xs l [] ≠ 0
   ·rw [if_pos h] at he; exact absurd he h
   ·rw [if_neg h]
  rw [hps] at hle ⊢
  simp only at hle ⊢
  refine ⟨by rw [seal_len]; omega,by omega,fun j c x hx hc=>seal_law _ j c x hx hc⟩)
 rw [<-hbs] at HCS HP1
 generalize packS xs l []=R1 at HP1 HLW
 obtain ⟨T,e1⟩:=R1
 simp only at HP1 HLW
 have HB0:=hid hb0
 have HW0:=hid hw0
 have HZ0:=hid hz0
 clear hbs hl hlo hp hp0 hb0 hw0 hz0
 generalize xs.length=n at HCS HP1 ⊢
 generalize l.length=m at hlc HCS HP1 ⊢
 clear hlc
 cases b with
 | false=>
  clear HP1 HLW
  go_enter Tryz.func4,Tryz.ntmps4
  go_wp2_with fail
  (with_reducible refine (HCS.out).mono ?_)
  rintro e u ⟨rfl,hb⟩
  rw [<-HW0.out,<-HZ0.out] at hb
  have HB1:=hid (HB0.out.trans (hb.mono HB0.out.size))
  have HC:=hid (HAW.out u)
  clear hb
  go_wp2_with fail
  (with_reducible refine (HC.out).mono ?_)
  rintro e u2 ⟨rfl,hb⟩
  have HB2:=hid (HB1.out.trans (hb.mono HB1.out.size))
  clear hb HC
  go_wp2_with fail
  go_ret
  exact ⟨rfl,HB2.out⟩
 | true=>
  go_enter Tryz.func4,Tryz.ntmps4
  go_wp2_with fail
  (with_reducible refine (HCS.out).mono ?_)
  rintro e u ⟨rfl,hb⟩
  rw [<-HW0.out,<-HZ0.out] at hb
  have HB1:=hid (HB0.out.trans (hb.mono HB0.out.size))
  have HX1:=hid (HX0.out.below hb)
  clear hb HCS HX0 HB0
  obtain ⟨f0,f1⟩:=BK.c2 (show BK _ #[.int .u16 at_,.int .u8 y] _ _ from HX1.out)
  clear f0
  by_cases hy0:y=0
  ·subst hy0
   have HC:=hid (HAW.out u)
   clear HP1 HLW
   go_wp2_with fail
   (with_reducible refine (HC.out).mono ?_)
   rintro e u2 ⟨rfl,hb⟩
   have HB2:=hid (HB1.out.trans (hb.mono HB1.out.size))
   clear hb HC
   go_wp2_with fail
   go_ret
   exact ⟨rfl,HB2.out⟩
  have hyq:(y == 0)=false:=by simpa using hy0
  have HY0:=hid hy0
  have HC:=hid (HP1.out (by first | rfl | trivial) u HB1.out)
  clear hy0 HP1
  go_wp2_with fail
  clear f1
  (with_reducible refine (HC.out).mono ?_)
  rintro e v ⟨rfl,hb⟩
  have HB2:=hid (HB1.out.trans (hb.mono HB1.out.size))
  have HX2:=hid (HX1.out.below hb)
  clear hb HC HX1 HB1
  by_cases h0:e1=0
  ·subst h0
   obtain ⟨h16,h10,hlaw⟩:=HLW.out (by first | rfl | trivial) rfl
   have HSL:=hid hlaw
   have hsz:=ba_len T
   have hne:((T.length:Int) == 0)=false:=by
    simp only [beq_eq_false_iff_ne,ne_eq]
    omega
   clear HLW hlaw
   have hcv:=conv T v
   obtain ⟨cap,hcap⟩:∃ cap,cap=grownCap v T.length 0 5:=⟨_,rfl⟩
   rw [<-hcap] at hcv
   have HBY:=hid (bytes_new T v cap)
   obtain ⟨v1,hv1⟩:∃ v1,v1=v.drew.alloc (.cells (bytesRow ⟨T.toArray⟩ cap) 5 ((bytesRow ⟨T.toArray⟩ cap).size,(bytesRow ⟨T.toArray⟩ cap).size + 1)):=⟨_,rfl⟩
   rw [<-hv1] at HBY hcv
   have hbv:Below v.heap.size v v1:=by rw [hv1]; exact ((Below.refl _ _).drew).alloc (Nat.le_refl _) _
   have HB3:=hid (HB2.out.trans (hbv.mono HB2.out.size))
   have HX3:=hid (HX2.out.below hbv)
   have HB2':=HB2
   clear hv1 hbv hcap HX2 HB2
   go_wp2_with fail
   obtain ⟨an,han⟩:∃ an:Nat,at_=(an:Int):=⟨at_.toNat,by omega⟩
   subst han
   obtain ⟨g0,g1⟩:=BK.c2 (show BK _ #[.int .u16 (an:Int),.int .u8 y] _ _ from HX3.out)
   obtain ⟨N,hN⟩:∃ N,N=T.length:=⟨_,rfl⟩
   have hNp:0 < N:=by omega
   obtain ⟨i,hie⟩:∃ i,i=an % N:=⟨_,rfl⟩
   have hiN:i < N:=by rw [hie]; exact Nat.mod_lt _ hNp
   have hiT:i < T.length:=by omega
   have hrem:Int.tmod (an:Int) (N:Int)=(i:Int):=by rw [hie]; exact (Int.ofNat_tmod an N).symm
   have hwa:IntKind.i64.wrap (an:Int)=(an:Int):=wrap_i64 (by omega) (by omega)
   have hwi:IntKind.i64.wrap (i:Int)=(i:Int):=wrap_i64 (by omega) (by omega)
   have hil:(i:Int) < (N:Int):=by omega
   have hN0:¬ N=0:=by omega
   have hNq:((N:Int) == 0)=false:=by simpa using hN0
   have hTx:T[i]? = some T[i]:=List.getElem?_eq_getElem hiT
   have hci:=HBY.out.cell i hiT
   have hfi:=HBY.out.frozen i hiT
   obtain ⟨c',hx1,hx2⟩:=other (c:=T[i]) hy.1 hy.2 HY0.out
   have HEN:=hid (HSL.out i c' T[i] hTx hx2)
   have HBS:=hid (HBY.out.set i c' hiT)
   rw [<-hN]
   generalize T[i]=cc at hci hx1 hTx hx2
   have hdr:∀ b j,v1.drew.cell? ⟨b,j,none⟩=v1.cell? ⟨b,j,none⟩:=fun _ _=>rfl
   have HNT:=hid hN
   have H10:Hid ((N:Int)<=10000):=hid (by omega)
   clear hie hiN hTx hx2 hNp hat hy h16 h10 hsz hne hyq HY0 hN hiT
   refine wp_region_L (S:=(fun W=>W.cell? ⟨w.heap.size,0,none⟩=some (.int .u16 (an:Int))/\W.cell? ⟨w.heap.size,1,none⟩=some (.int .u8 y)/\W.cell? ⟨v.heap.size,i,none⟩=some (.int .u8 (cc.toNat:Int)))) [13] (by kernel_rfl) ⟨g0,g1,hci⟩ (fun hHeld=>?_)
   refine anyL_take (i:=0) (v:=?vv1) rfl (by kernel_rfl) (by kernel_rfl) (by kernel_rfl) (by kernel_rfl) (fun _ _ _ h=>h) (Or.inl ⟨by rfl,?hy1⟩) (by assumption) ?rest1
   case hy1=>(intro wx hSw; (try dsimp only at hSw); go_simp; try (with_reducible rfl))
   simp only [Act.put,zA,zC,zD,zE,zF]
   refine anyL_take (i:=1) (v:=?vv2) rfl (by kernel_rfl) (by kernel_rfl) (by kernel_rfl) (by kernel_rfl) (fun _ _ _ h=>h) (Or.inl ⟨by rfl,?hy2⟩) (by assumption) ?rest2
   case hy2=>(intro wx hSw; (try dsimp only at hSw); go_simp; try (with_reducible rfl))
   simp only [Act.put,zA,zB,zC,zD,zE,zF]
   refine anyL_take (i:=2) (v:=?vv3) rfl (by kernel_rfl) (by kernel_rfl) (by kernel_rfl) (by kernel_rfl) (fun _ _ _ h=>h) (Or.inl ⟨by rfl,?hy3⟩) (by assumption) ?rest3
   case hy3=>(intro wx hSw; (try dsimp only at hSw); go_simp; try (with_reducible rfl))
   simp only [Act.put,zA,zB,zC,zD,zE,zF]
   refine anyL_take (i:=3) (v:=?vv4) rfl (by kernel_rfl) (by kernel_rfl) (by kernel_rfl) (by kernel_rfl) (fun _ _ _ h=>h) (Or.inl ⟨by rfl,?hy4⟩) (by assumption) ?rest4
   case hy4=>(intro wx hSw; (try dsimp only at hSw); go_simp; try (with_reducible rfl))
   simp only [Act.put,zA,zB,zC,zD,zE,zF]
   refine anyL_take (i:=4) (v:=?vv5) rfl (by kernel_rfl) (by kernel_rfl) (by kernel_rfl) (by kernel_rfl) (fun _ _ _ h=>h) (Or.inl ⟨by rfl,?hy5⟩) (by assumption) ?rest5
   case hy5=>(intro wx hSw; (try dsimp only at hSw); go_simp; try (with_reducible rfl))
   simp only [Act.put,zA,zB,zC,zD,zE,zF]
   refine anyL_take (i:=5) (v:=?vv6) rfl (by kernel_rfl) (by kernel_rfl) (by kernel_rfl) (by kernel_rfl) (fun _ _ _ h=>h) (Or.inl ⟨by rfl,?hy6⟩) (by assumption) ?rest6
   case hy6=>(intro wx hSw; (try dsimp only at hSw); go_simp; try (with_reducible rfl))
   simp only [Act.put,zA,zB,zC,zD,zE,zF]
   refine anyL_take (i:=6) (v:=?vv7) rfl (by kernel_rfl) (by kernel_rfl) (by kernel_rfl) (by kernel_rfl) (fun _ _ _ h=>h) (Or.inl ⟨by rfl,?hy7⟩) (by assumption) ?rest7
   case hy7=>(intro wx hSw; (try dsimp only at hSw); go_simp; try (with_reducible rfl))
   simp only [Act.put,zA,zB,zC,zD,zE,zF]
   refine anyL_take (i:=7) (v:=?vv8) rfl (by kernel_rfl) (by kernel_rfl) (by kernel_rfl) (by kernel_rfl) (fun _ _ _ h=>h) (Or.inl ⟨by rfl,?hy8⟩) (by assumption) ?rest8
   case hy8=>(intro wx hSw; (try dsimp only at hSw); go_simp; try (with_reducible rfl))
   simp only [Act.put,zA,zB,zC,zD,zE,zF]
   refine anyL_take (i:=8) (v:=?vv9) rfl (by kernel_rfl) (by kernel_rfl) (by kernel_rfl) (by kernel_rfl) (fun _ _ _ h=>h) (Or.inl ⟨by rfl,?hy9⟩) (by assumption) ?rest9
   case hy9=>(intro wx hSw; (try dsimp only at hSw); go_simp; try (with_reducible rfl))
   simp only [Act.put,zA,zB,zC,zD,zE,zF]
   refine anyL_take (i:=9) (v:=?vv10) rfl (by kernel_rfl) (by kernel_rfl) (by kernel_rfl) (by kernel_rfl) (fun _ _ _ h=>h) (Or.inl ⟨by rfl,?hy10⟩) (by assumption) ?rest10
   case hy10=>(intro wx hSw; (try dsimp only at hSw); go_simp; try (with_reducible rfl))
   simp only [Act.put,zA,zB,zC,zD,zE,zF]
   refine anyL_take (i:=10) (v:=?vv11) rfl (by kernel_rfl) (by kernel_rfl) (by kernel_rfl) (by kernel_rfl) (fun _ _ _ h=>h) (Or.inl ⟨by rfl,?hy11⟩) (by assumption) ?rest11
   case hy11=>(intro wx hSw; (try dsimp only at hSw); go_simp; try (with_reducible rfl))
   simp only [Act.put,zA,zB,zC,zD,zE,zF]
   refine anyL_take (i:=11) (v:=?vv12) rfl (by kernel_rfl) (by kernel_rfl) (by kernel_rfl) (by kernel_rfl) (fun _ _ _ h=>h) (Or.inl ⟨by rfl,?hy12⟩) (by assumption) ?rest12
   case hy12=>(intro wx hSw; (try dsimp only at hSw); go_simp; try (with_reducible rfl))
   simp only [Act.put,zA,zB,zC,zD,zE,zF]
   refine anyL_take (i:=12) (v:=?vv13) rfl (by kernel_rfl) (by kernel_rfl) (by kernel_rfl) (by kernel_rfl) (fun _ _ _ h=>h) (Or.inl ⟨by rfl,?hy13⟩) (by assumption) ?rest13
   case hy13=>(intro wx hSw; (try dsimp only at hSw); go_simp; try (with_reducible rfl))
   simp only [Act.put,zA,zB,zC,zD,zE,zF]
   refine anyL_one (i:=13) (by kernel_rfl) rfl (fun K hK=>?_)
   go_simp
   refine hK.out _ _ ((fun h=>absurd h (by decide))) (fun hHeld=>?_)
   clear hK K
   refine anyL_done (by kernel_rfl) ?_ _
   have hbk:w.heap.size<=v.heap.size:=HB2'.out.size
   have hb4:Below w.heap.size w (v1.setCell ⟨v.heap.size,i,none⟩ (.int .u8 (c'.toNat:Int))).drew:=(HB3.out.setCell (p:=⟨v.heap.size,i,none⟩) hbk _).drew
   obtain ⟨v2,hv2⟩:∃ v2,v2=(v1.setCell ⟨v.heap.size,i,none⟩ (.int .u8 (c'.toNat:Int))).drew:=⟨_,rfl⟩
   have hbs:BytesAt (T.set i c') v.heap.size v2:=by rw [hv2]; exact ⟨HBS.out.cell,HBS.out.frozen⟩
   have hbc:=back (T.set i c') v.heap.size cap v2 hbs
   rw [List.length_set,<-HNT.out] at hbc
   have HC:=hid (entries_any (T.set i c') v2 (by rw [List.length_set,<-HNT.out]; have:=H10.out; omega))
   rw [HEN.out] at HC
   unfold GotE at HC
   simp only [List.length_nil] at HC
   rw [<-hv2] at hb4 ⊢
   have HB4:=hid hb4
   clear hb4 hv2 hbs HBS HEN HB3 HBY HSL HX3 hbk
   generalize T.set i c' = T2 at hbc HC
   clear g0 g1 hci hcv hfi hdr hx1 hrem hwa hwi hil hN0 hNq
   go_wp2_with fail
   (with_reducible refine (HC.out).mono ?_)
   rintro e u1 ⟨ea,ec,rfl,_,hb⟩
   have HB5:=hid (HB4.out.trans (hb.mono HB4.out.size))
   have HC2:=hid (HAW.out u1)
   clear hb HC HB4
   go_wp2_with fail
   (with_reducible refine (HC2.out).mono ?_)
   rintro e u2 ⟨rfl,hb⟩
   have HB6:=hid (HB5.out.trans (hb.mono HB5.out.size))
   clear hb HC2
   go_wp2_with fail
   go_ret
   exact ⟨rfl,HB6.out⟩
  ·have hbq:(e1 != 0)=true:=by simpa using h0
   have HC:=hid (HAW.out v)
   clear h0 HLW
   go_wp2_with fail
   (with_reducible refine (HC.out).mono ?_)
   rintro e u2 ⟨rfl,hb⟩
   have HB3:=hid (HB2.out.trans (hb.mono HB2.out.size))
   clear hb HC
   go_wp2_with fail
   go_ret
   exact ⟨rfl,HB3.out⟩
end Go.Proofs.YtijkieiihpiljaaGreat.packSeal
