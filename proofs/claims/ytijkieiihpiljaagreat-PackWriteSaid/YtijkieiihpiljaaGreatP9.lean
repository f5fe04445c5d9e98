/- Joined texts: PkIa, PkIb, PkIc, PkId, PkIe, PkIf, PkIg, PkIh. -/
import Derived.Test.YtijkieiihpiljaaGreatP2
import Derived.Test.YtijkieiihpiljaaGreatP1
import Derived.Test.YtijkieiihpiljaaGreatK3
import Derived.Test.YtijkieiihpiljaaGreatP8
import Derived.Test.YtijkieiihpiljaaGreatK6
import Derived.Test.YtijkieiihpiljaaGreatK1
/- Deltas: the index in memory; find and step. -/
set_option maxRecDepth 100000
set_option maxHeartbeats 16000000
open Go.Lib (hid)
namespace Go.Proofs.YtijkieiihpiljaaGreat
open Go.RowKit Go.Shelf
set_option linter.unusedVariables false
def ndCs (x:Nd):List Value:=[.int .i64 (x.len:Int),.int .i64 x.link,.int .i64 (x.fin:Int),.int .i64 x.edge]
def egCs (x:Eg):List Value:=[.int .u8 (x.c.toNat:Int),.int .i64 (x.tg:Int),.int .i64 x.nx]
theorem layNd:Lay ndCs 4:=⟨by decide,fun _=>rfl,fun a v hv=>by
 simp [ndCs] at hv
 rcases hv with rfl | rfl | rfl | rfl <;> rfl⟩
theorem layEg:Lay egCs 3:=⟨by decide,fun _=>rfl,fun a v hv=>by
 simp [egCs] at hv
 rcases hv with rfl | rfl | rfl <;> rfl⟩
structure IxIn (B ib:Nat) (N:List Nd) (E:List Eg) (W:World):Prop where
 ex:∃ na nc ea ec,BK ib #[.slice na N.length nc,.slice ea E.length ec] 188 W/\GIn ndCs 4 B W na N/\GIn egCs 3 B W ea E
 lt:ib < B
theorem IxIn.below {B B' ib:Nat} {N:List Nd} {E:List Eg} {W W':World} (h:IxIn B ib N E W) (hb:Below B' W W') (hB:B<=B'):IxIn B ib N E W':=by
 obtain ⟨⟨na,nc,ea,ec,h1,h2,h3⟩,h4⟩:=h
 exact ⟨⟨na,nc,ea,ec,(hb.block ib (by omega)).trans h1,h2.below hb hB,h3.below hb hB⟩,h4⟩
theorem IxIn.mono {B B' ib:Nat} {N:List Nd} {E:List Eg} {W:World} (h:IxIn B ib N E W) (hB:B<=B'):IxIn B' ib N E W:=by
 obtain ⟨⟨na,nc,ea,ec,h1,h2,h3⟩,h4⟩:=h
 exact ⟨⟨na,nc,ea,ec,h1,h2.mono hB,h3.mono hB⟩,by omega⟩
theorem nd_cells {B:Nat} {W:World} {a:Option Addr} {l:List Nd} (h:GIn ndCs 4 B W a l) {k:Nat} (hk:k < l.length):∃ b off,a=some ⟨b,off,none⟩/\b < B/\W.cell? ⟨b,off + k * 4,none⟩=some (.int .i64 ((nd l k).len:Int))/\W.cell? ⟨b,off + k * 4 + 1,none⟩=some (.int .i64 (nd l k).link)/\W.cell? ⟨b,off + k * 4 + 2,none⟩=some (.int .i64 ((nd l k).fin:Int))/\W.cell? ⟨b,off + k * 4 + 3,none⟩=some (.int .i64 (nd l k).edge):=by
 obtain ⟨b,off,h1,h2,h3⟩:=h k hk
 rw [nd_at hk]
 exact ⟨b,off,h1,h2,h3 0 _ rfl,h3 1 _ rfl,h3 2 _ rfl,h3 3 _ rfl⟩
theorem eg_cells {B:Nat} {W:World} {a:Option Addr} {l:List Eg} (h:GIn egCs 3 B W a l) {k:Nat} {x:Eg} (hk:l[k]? = some x):∃ b off,a=some ⟨b,off,none⟩/\b < B/\W.cell? ⟨b,off + k * 3,none⟩=some (.int .u8 (x.c.toNat:Int))/\W.cell? ⟨b,off + k * 3 + 1,none⟩=some (.int .i64 (x.tg:Int))/\W.cell? ⟨b,off + k * 3 + 2,none⟩=some (.int .i64 x.nx):=by
 obtain ⟨hk1,hk2⟩:=List.getElem?_eq_some_iff.1 hk
 obtain ⟨b,off,h1,h2,h3⟩:=h k hk1
 rw [hk2] at h3
 exact ⟨b,off,h1,h2,h3 0 _ rfl,h3 1 _ rfl,h3 2 _ rfl⟩
def fndI (L:List (Nat × UInt8 × Nat)) (c:UInt8):Int:=match L.find? (fun x=>x.2.1 == c) with
 | some x=>(x.1:Int)
 | none=>-1
structure FiSt (E:List Eg) (L:List (Nat × UInt8 × Nat)) (c:UInt8) (R:List (Nat × UInt8 × Nat)) (e:Int):Prop where
 ch:Chain E e R
 fd:L.find? (fun x=>x.2.1 == c)=R.find? (fun x=>x.2.1 == c)
 le:R.length<=L.length
theorem FiSt.done {E:List Eg} {L:List (Nat × UInt8 × Nat)} {c:UInt8} {e:Int} (h:FiSt E L c [] e):e = -1/\fndI L c = -1:=⟨h.ch,by unfold fndI; rw [h.fd]; rfl⟩
theorem FiSt.at {E:List Eg} {L:List (Nat × UInt8 × Nat)} {c:UInt8} {x:Nat × UInt8 × Nat} {R:List (Nat × UInt8 × Nat)} {e:Int} (h:FiSt E L c (x :: R) e):e=(x.1:Int)/\(x.2.1=c->fndI L c=(x.1:Int))/\∃ nx,E[x.1]? = some ⟨x.2.1,x.2.2,nx⟩/\(x.2.1 ≠ c->FiSt E L c R nx):=by
 obtain ⟨h1,nx,h2,h3⟩:=h.ch
 refine ⟨h1,fun e=>?_,nx,h2,fun e=>⟨h3,?_,?_⟩⟩
 ·unfold fndI
  rw [h.fd,List.find?_cons,e]
  simp
 ·rw [h.fd,List.find?_cons]
  have:(x.2.1 == c)=false:=by simpa using e
  rw [this]
 ·have:=h.le; simp at this; omega
theorem Chain.det {E:List Eg}:∀ {R R':List (Nat × UInt8 × Nat)} {e:Int},Chain E e R->Chain E e R'->R=R'
 | [],[],e,h,h'=>rfl
 | [],y :: R',e,h,h'=>by have h1:e = -1:=h; have h2:=h'.1; omega
 | x :: R,[],e,h,h'=>by have h1:e = -1:=h'; have h2:=h.1; omega
 | x :: R,y :: R',e,h,h'=>by
  obtain ⟨h1,nx,h2,h3⟩:=h
  obtain ⟨g1,ny,g2,g3⟩:=h'
  obtain ⟨x1,x2,x3⟩:=x
  obtain ⟨y1,y2,y3⟩:=y
  obtain rfl:x1=y1:=by simp only at h1 g1; omega
  simp only at h2 g2
  rw [h2] at g2
  injection g2 with g2
  injection g2 with e1 e2 e3
  subst e1 e2 e3
  rw [h3.det g3]
noncomputable def chLen (E:List Eg) (e:Int):Nat:=by
 classical
 exact if h:∃ R,Chain E e R then h.choose.length else 0
theorem chLen_eq {E:List Eg} {R:List (Nat × UInt8 × Nat)} {e:Int} (h:Chain E e R):chLen E e=R.length:=by
 unfold chLen
 rw [dif_pos ⟨R,h⟩,(Exists.choose_spec ⟨R,h⟩:Chain E e _).det h]
theorem ifind_any {B ib:Nat} {N:List Nd} {E:List Eg} {T:Tmap} {w:World} (h:IxIn B ib N E w) (hx:Ixr N E T) (hN:(N.length:Int)<=1000000) (v:Nat) (hv:v < N.length) (c:UInt8) :
  Calls Tryz.prog 140 #[.pointer (some ⟨ib,0,none⟩),.int .i64 (v:Int),.int .u8 (c.toNat:Int)] w fun e w'=>e = .returned (.int .i64 (fndI (T v) c))/\w' = w:=by
 obtain ⟨⟨na,nc,ea,ec,hb,hn,he⟩,_⟩:=h
 obtain ⟨nb,no,rfl,_,n0,n1,n2,n3⟩:=nd_cells hn hv
 have HE:=hid he
 have hel:=hx.elen
 have hEL:(E.length:Int)<=256000000:=by omega
 have HST:Hid (FiSt E (T v) c (T v) (nd N v).edge):=hid ⟨hx.ch v hv,rfl,Nat.le_refl _⟩
 generalize T v=L at HST ⊢
 generalize (nd N v).edge=e0 at n3 HST
 obtain ⟨x0,x1⟩:=BK.c2 (show BK _ #[.slice (some ⟨nb,no,none⟩) N.length nc,.slice ea E.length ec] _ _ from hb)
 obtain ⟨F,hF⟩:∃ F,F=fndI L c:=⟨_,rfl⟩
 have HF:=hid hF
 rw [<-hF]
 obtain ⟨m,hm⟩:∃ m,m=E.length:=⟨_,rfl⟩
 have HM:=hid hm
 rw [<-hm] at x1 hEL
 obtain ⟨nn,hnn⟩:∃ nn,nn=N.length:=⟨_,rfl⟩
 rw [<-hnn] at x0 hN hv
 have hvi:(v:Int) < (nn:Int):=by omega
 obtain ⟨lc,hlc⟩:∃ lc:Int,lc=(c.toNat:Int):=⟨_,rfl⟩
 have HLC:=hid hlc
 rw [<-hlc]
 clear hF hm hnn hb hn he hx hel n0 n1 n2 hlc
 go_enter Tryz.func140,Tryz.ntmps140
 go_wp2_with fail
 clear n3
 go_loopw [7] (fun i wr=>∃ (R:List (Nat × UInt8 × Nat)) (ei:Int),i = .int .i64 ei/\Hid (FiSt E L c R ei)/\wr=w) (fun i _=>chLen E (intOf i))
 case atStart=>exact ⟨L,e0,rfl,HST,rfl⟩
 case round=>
  clear HST
  obtain ⟨R,ei,rfl,HS,rfl⟩:=hrel
  cases R with
  | nil=>
   obtain ⟨rfl,h1⟩:=HS.out.done
   have HR:=hid (HF.out.trans h1)
   clear h1 HS HF
   go_wp2_with fail
   go_ret
   rw [HR.out]
   exact ⟨rfl,rfl⟩
  | cons x R=>
   obtain ⟨rfl,h1,nx,h2,h3⟩:=HS.out.at
   obtain ⟨eb,eo,haa,_,q0,q1,q2⟩:=eg_cells HE.out h2
   have hlt:=(List.getElem?_eq_some_iff.1 h2).1
   have HC1:Hid (chLen E ((x.1:Nat):Int)=R.length + 1):=hid (by rw [chLen_eq HS.out.ch]; rfl)
   obtain ⟨j,d,tg⟩:=x
   simp only at h1 h2 h3 q0 q1 q2 hlt HC1 ⊢
   rw [<-HM.out] at hlt
   have hjl:(j:Int) < (m:Int):=by omega
   have hj0:(0:Int)<=(j:Int):=by omega
   subst haa
   by_cases hd:d=c
   ·have hq:((d.toNat:Int) != lc)=false:=by rw [HLC.out,hd]; simp
    have HR:=hid (HF.out.trans (h1 hd))
    generalize (d.toNat:Int)=ld at q0 hq
    clear h1 h2 h3 HS HF HC1 hd
    go_wp2_with fail
    go_ret
    rw [HR.out]
    exact ⟨rfl,rfl⟩
   ·have hq:((d.toNat:Int) != lc)=true:=by
     rw [HLC.out]
     simp only [bne_iff_ne,ne_eq]
     intro e
     exact hd (UInt8.toNat_inj.1 (by exact_mod_cast e))
    have HS2:=hid (h3 hd)
    have HC2:Hid (chLen E nx=R.length):=hid (chLen_eq HS2.out.ch)
    generalize (d.toNat:Int)=ld at q0 hq
    clear h1 h2 h3 HS hd
    go_wp2_with fail
    go_roundw
    case rel=>exact ⟨R,nx,rfl,HS2,trivial⟩
    case measure=>
     simp only [intOf]
     rw [HC1.out,HC2.out]
     omega
def stepI (T:Tmap) (v:Nat) (c:UInt8):Int:=match trU T v c with
 | some u=>(u:Int)
 | none=>-1
theorem fndI_none {T:Tmap} {v:Nat} {c:UInt8} (h:trU T v c=none):fndI (T v) c = -1:=by
 unfold trU at h
 unfold fndI
 rw [Option.map_eq_none_iff] at h
 rw [h]
theorem fndI_some {T:Tmap} {v u:Nat} {c:UInt8} (h:trU T v c=some u):∃ i:Nat,fndI (T v) c=(i:Int)/\(T v).find? (fun x=>x.2.1 == c)=some (i,c,u):=by
 unfold trU at h
 unfold fndI
 rw [Option.map_eq_some_iff] at h
 obtain ⟨x,h1,h2⟩:=h
 have h3:x.2.1=c:=by simpa using List.find?_some h1
 refine ⟨x.1,by rw [h1],by rw [h1]; obtain ⟨x1,x2,x3⟩:=x; simp only at h2 h3; rw [h2,h3]⟩
theorem fnd_edge {N:List Nd} {E:List Eg} {T:Tmap} {v i u:Nat} {c:UInt8} (hx:Ixr N E T) (hv:v < N.length) (h:(T v).find? (fun x=>x.2.1 == c)=some (i,c,u)):∃ nx,E[i]? = some ⟨c,u,nx⟩:=(hx.ch v hv).idx _ (List.mem_of_find?_eq_some h)
theorem istep_any {B ib:Nat} {N:List Nd} {E:List Eg} {T:Tmap} {w:World} (h:IxIn B ib N E w) (hx:Ixr N E T) (hN:(N.length:Int)<=1000000) (v:Nat) (hv:v < N.length) (c:UInt8) :
  Calls Tryz.prog 116 #[.pointer (some ⟨ib,0,none⟩),.int .i64 (v:Int),.int .u8 (c.toNat:Int)] w fun e w'=>e = .returned (.int .i64 (stepI T v c))/\w' = w:=by
 have HFD:=hid (ifind_any h hx hN v hv c)
 obtain ⟨⟨na,nc,ea,ec,hb,hn,he⟩,_⟩:=h
 obtain ⟨x0,x1⟩:=BK.c2 (show BK _ #[.slice na N.length nc,.slice ea E.length ec] _ _ from hb)
 unfold stepI
 cases ht:trU T v c with
 | none=>
  rw [fndI_none ht] at HFD
  simp only
  generalize (c.toNat:Int)=lc at HFD ⊢
  clear hb hn he ht hx
  go_enter Tryz.func116,Tryz.ntmps116
  go_wp2_with fail
  (with_reducible refine (HFD.out).mono ?_)
  rintro e w' ⟨rfl,rfl⟩
  go_wp2_with fail
  go_ret
  exact ⟨rfl,rfl⟩
 | some u=>
  obtain ⟨i,h1,h2⟩:=fndI_some ht
  obtain ⟨nx,h3⟩:=fnd_edge hx hv h2
  obtain ⟨eb,eo,rfl,_,q0,q1,q2⟩:=eg_cells he h3
  have hlt:=(List.getElem?_eq_some_iff.1 h3).1
  rw [h1] at HFD
  simp only
  generalize (c.toNat:Int)=lc at HFD ⊢
  generalize E.length=m at *
  have hil:(i:Int) < (m:Int):=by omega
  have hi0:¬ (i:Int) < 0:=by omega
  clear hb hn he ht hx q0 q2 h1 h2 h3
  go_enter Tryz.func116,Tryz.ntmps116
  go_wp2_with fail
  (with_reducible refine (HFD.out).mono ?_)
  rintro e w' ⟨rfl,rfl⟩
  go_wp2_with fail
  go_ret
  exact ⟨rfl,rfl⟩
theorem own_kind {W:World} {B:Nat} {e:TypeId} {z n:Nat} {v:Value} {xs:List Value} (h:W.ownsRow B e z v n xs) (g:Nat) (hv:v.ownBlock=some g):∃ c,W.heap[g]? = some (.cells c e (0,0)):=by
 rcases h.2 with ⟨rfl,_⟩ | ⟨k,c,cur,rfl,_,hg,_⟩
 ·cases hv
 ·have:k=g:=by simpa [Value.ownBlock] using hv
  subst this
  exact ⟨cur,hg⟩
theorem row_box {W:World} {B b:Nat} {e t:TypeId} {z n:Nat} {v:Value} {xs:List Value} {cs:Array Value} (h:W.ownsRow B e z v n xs) (hk:BK b cs t W) (ht:t ≠ e):v.ownBlock ≠ some b:=fun hb=>by
 obtain ⟨c,hg⟩:=own_kind h b hb
 rw [show W.heap[b]? = _ from hk] at hg
 injection hg with hg
 injection hg with _ h2 _
 exact ht h2
theorem row_row {W:World} {B B':Nat} {e e':TypeId} {z z' n n':Nat} {v v':Value} {xs xs':List Value} (h:W.ownsRow B e z v n xs) (h':W.ownsRow B' e' z' v' n' xs') (ht:e ≠ e') {k:Nat} (hk:v.ownBlock=some k):v'.ownBlock ≠ some k:=fun hb=>by
 obtain ⟨c,hg⟩:=own_kind h k hk
 obtain ⟨c',hg'⟩:=own_kind h' k hb
 rw [hg] at hg'
 injection hg' with hg'
 injection hg' with _ h2 _
 exact ht h2
theorem row_apart {W:World} {B B':Nat} {e e':TypeId} {z z' n n':Nat} {v v':Value} {xs xs':List Value} (h:W.ownsRow B e z v n xs) (h':W.ownsRow B' e' z' v' n' xs') (ht:e ≠ e'):v.ownBlock=none\/v.ownBlock ≠ v'.ownBlock:=by
 cases hv:v.ownBlock with
 | none=>exact .inl rfl
 | some k=>exact .inr (row_row h h' ht hv).symm
structure IxB (B ib:Nat) (N:List Nd) (E:List Eg) (na:Option Addr) (nc:Nat) (ea:Option Addr) (ec:Nat) (W:World):Prop where
 box:BK ib #[.slice na N.length nc,.slice ea E.length ec] 188 W
 lo:B<=ib
 ns:W.ownsRow B 184 4 (.slice na N.length nc) N.length (gcs ndCs N)
 es:W.ownsRow B 211 3 (.slice ea E.length ec) E.length (gcs egCs E)
def IxG (B ib:Nat) (N:List Nd) (E:List Eg) (W:World):Prop:=∃ na nc ea ec,IxB B ib N E na nc ea ec W
section
variable {B ib:Nat} {N:List Nd} {E:List Eg} {na ea:Option Addr} {nc ec:Nat} {W:World}
theorem IxB.lt (h:IxB B ib N E na nc ea ec W):ib < W.heap.size:=h.box.lt
theorem IxB.in_ (h:IxB B ib N E na nc ea ec W):IxIn W.heap.size ib N E W:=⟨⟨na,nc,ea,ec,h.box,own_gin layNd rfl h.ns,own_gin layEg rfl h.es⟩,h.lt⟩
theorem IxG.in_ (h:IxG B ib N E W):IxIn W.heap.size ib N E W:=by obtain ⟨_,_,_,_,h⟩:=h; exact h.in_
theorem IxB.below (h:IxB B ib N E na nc ea ec W) {W':World} (hb:Below W.heap.size W W'):IxB B ib N E na nc ea ec W':=⟨h.box.below hb,h.lo,own_below h.ns hb,own_below h.es hb⟩
theorem IxB.gns (h:IxB B ib N E na nc ea ec W):GIn ndCs 4 W.heap.size W na N:=own_gin layNd rfl h.ns
theorem IxB.ges (h:IxB B ib N E na nc ea ec W):GIn egCs 3 W.heap.size W ea E:=own_gin layEg rfl h.es
theorem infoNd:(Tryz.prog.info? 184).map (fun i=>(i.zero,i.size,i.bytes))=some (some (.agg #[.int .i64 0,.int .i64 0,.int .i64 0,.int .i64 0]),4,32):=by kernel_rfl
theorem infoEg:(Tryz.prog.info? 211).map (fun i=>(i.zero,i.size,i.bytes))=some (some (.agg #[.int .u8 0,.int .i64 0,.int .i64 0]),3,24):=by kernel_rfl
theorem IxB.pushN (h:IxB B ib N E na nc ea ec W) (x:Nd) (hN:(N.length:Int)<=1000000):∃ na' nc' W',Hid ((Builtin.append_ #[185,185] 185 #[.slice na N.length nc,.slice (some ⟨W.heap.size,0,none⟩) 1 1]).run Tryz.prog (W.alloc (.cells (ndCs x).toArray 184)) = .ok (.slice na' (N.length + 1) nc') W')/\
  BK ib #[.slice na N.length nc,.slice ea E.length ec] 188 W'/\GIn egCs 3 W'.heap.size W' ea E/\IxB B ib (N ++ [x]) E na' nc' ea ec (W'.setCell ⟨ib,0,none⟩ (.slice na' (N.length + 1) nc'))/\Below B W (W'.setCell ⟨ib,0,none⟩ (.slice na' (N.length + 1) nc')):=by
 obtain ⟨i0,hi,hz0,hz1,hz2⟩:=info_parts infoNd
 have hlt:=h.lt
 have hlo:=h.lo
 obtain ⟨v',W',hrun,hown,hg,_⟩:=append_oneG layNd Tryz.underlying185 hi hz0 hz1 hz2 rfl rfl h.ns x hN (by decide) (by omega)
 obtain ⟨na',nc',rfl,_⟩:=ownsRow_sliceN hown
 have hk1:=(h.box.alloc (.cells (ndCs x).toArray 184)).grow hg (fun k e hk=>row_box h.ns h.box (by decide) (by rw [e,hk]))
 have he1:=(h.es.alloc (.cells (ndCs x).toArray 184)).kept hg (row_apart h.es h.ns (by decide))
 have hg2:=gset W' ib 0 (.slice na' (N.length + 1) nc')
 have hl:(N ++ [x]).length=N.length + 1:=by simp
 refine ⟨na',nc',W',hrun,hk1,own_gin layEg rfl he1,⟨?_,hlo,?_,he1.kept hg2 (.inr (row_box he1 hk1 (by decide)))⟩,?_⟩
 ·rw [hl]; exact hk1.set 0 _
 ·rw [hl]; exact hown.kept hg2 (.inr (row_box hown hk1 (by decide)))
 ·have hb:Below B W W':=((Below.refl B W).alloc (by omega) _).grown hg (by simp; omega) (fun k e=>(h.ns.lt k e).1)
  exact hb.setCell hlo _
theorem IxB.pushE (h:IxB B ib N E na nc ea ec W) (x:Eg) (hE:(E.length:Int)<=1000000):∃ ea' ec' W',Hid ((Builtin.append_ #[186,186] 186 #[.slice ea E.length ec,.slice (some ⟨W.heap.size,0,none⟩) 1 1]).run Tryz.prog (W.alloc (.cells (egCs x).toArray 211)) = .ok (.slice ea' (E.length + 1) ec') W')/\
  BK ib #[.slice na N.length nc,.slice ea E.length ec] 188 W'/\W'.ownsRow B 184 4 (.slice na N.length nc) N.length (gcs ndCs N)/\IxB B ib N (E ++ [x]) na nc ea' ec' (W'.setCell ⟨ib,1,none⟩ (.slice ea' (E.length + 1) ec'))/\Below B W (W'.setCell ⟨ib,1,none⟩ (.slice ea' (E.length + 1) ec')):=by
 obtain ⟨i0,hi,hz0,hz1,hz2⟩:=info_parts infoEg
 have hlt:=h.lt
 have hlo:=h.lo
 obtain ⟨v',W',hrun,hown,hg,_⟩:=append_oneG layEg Tryz.underlying186 hi hz0 hz1 hz2 rfl rfl h.es x hE (by decide) (by omega)
 obtain ⟨ea',ec',rfl,_⟩:=ownsRow_sliceN hown
 have hk1:=(h.box.alloc (.cells (egCs x).toArray 211)).grow hg (fun k e hk=>row_box h.es h.box (by decide) (by rw [e,hk]))
 have hn1:=(h.ns.alloc (.cells (egCs x).toArray 211)).kept hg (row_apart h.ns h.es (by decide))
 have hg2:=gset W' ib 1 (.slice ea' (E.length + 1) ec')
 have hl:(E ++ [x]).length=E.length + 1:=by simp
 refine ⟨ea',ec',W',hrun,hk1,hn1,⟨?_,hlo,hn1.kept hg2 (.inr (row_box hn1 hk1 (by decide))),?_⟩,?_⟩
 ·rw [hl]; exact hk1.set 1 _
 ·rw [hl]; exact hown.kept hg2 (.inr (row_box hown hk1 (by decide)))
 ·have hb:Below B W W':=((Below.refl B W).alloc (by omega) _).grown hg (by simp; omega) (fun k e=>(h.es.lt k e).1)
  exact hb.setCell hlo _
theorem own_at {e:TypeId} {z n:Nat} {v:Value} {xs:List Value} (h:W.ownsRow B e z v n xs) (hn:0 < n):∃ g c cur,v = .slice (some ⟨g,0,none⟩) n c/\n<=c/\B<=g/\g < W.heap.size/\BK g cur e W:=by
 rcases h.2 with ⟨rfl,rfl⟩ | ⟨g,c,cur,rfl,hb,hg,hc,_⟩
 ·omega
 ·exact ⟨g,c,cur,rfl,hc,hb,(Array.getElem?_eq_some_iff.1 hg).1,hg⟩
theorem IxB.setN (h:IxB B ib N E na nc ea ec W) {v:Nat} (hv:v < N.length):∃ g,na=some ⟨g,0,none⟩/\(∀ j,W.frozen? ⟨g,j,none⟩=false)/\(∀ j,j < 4->W.cell? ⟨g,v * 4 + j,none⟩=(ndCs (nd N v))[j]?)/\
  ∀ (x:Nd) (j:Nat) (u:Value),j < 4->ndCs x=(ndCs (nd N v)).set j u->IxB B ib (N.set v x) E na nc ea ec (W.setCell ⟨g,v * 4 + j,none⟩ u)/\Below B W (W.setCell ⟨g,v * 4 + j,none⟩ u):=by
 obtain ⟨g,c,cur,hs,hc,hB,hgl,hbk⟩:=own_at h.ns (by omega)
 cases hs
 refine ⟨g,rfl,fun j=>hbk.frozen j,fun j hj=>?_,fun x j u hj hx=>?_⟩
 ·have hji:v * 4 + j < N.length * 4:=by omega
  rw [h.ns.cellAt _ hji,gcs_at layNd N v hv j hj,nd_at hv]
 ·have hg2:=gset W g (v * 4 + j) u
  have hne:g ≠ ib:=fun e=>row_box h.ns h.box (by decide) (by rw [<-e]; rfl)
  rw [nd_at hv] at hx
  refine ⟨⟨?_,h.lo,?_,h.es.kept hg2 (row_apart h.es h.ns (by decide))⟩,(Below.refl B W).setCell hB _⟩
  ·rw [List.length_set]; exact h.box.other hne _ _
  ·rw [List.length_set]; exact own_setG layNd h.ns rfl hv hj u x hx
theorem IxB.setE (h:IxB B ib N E na nc ea ec W) {i:Nat} {y:Eg} (hi:E[i]? = some y):∃ g,ea=some ⟨g,0,none⟩/\(∀ j,W.frozen? ⟨g,j,none⟩=false)/\(∀ j,j < 3->W.cell? ⟨g,i * 3 + j,none⟩=(egCs y)[j]?)/\
  ∀ (x:Eg) (j:Nat) (u:Value),j < 3->egCs x=(egCs y).set j u->IxB B ib N (E.set i x) na nc ea ec (W.setCell ⟨g,i * 3 + j,none⟩ u)/\Below B W (W.setCell ⟨g,i * 3 + j,none⟩ u):=by
 obtain ⟨hi1,hi2⟩:=List.getElem?_eq_some_iff.1 hi
 obtain ⟨g,c,cur,hs,hc,hB,hgl,hbk⟩:=own_at h.es (by omega)
 cases hs
 refine ⟨g,rfl,fun j=>hbk.frozen j,fun j hj=>?_,fun x j u hj hx=>?_⟩
 ·have hji:i * 3 + j < E.length * 3:=by omega
  rw [h.es.cellAt _ hji,gcs_at layEg E i hi1 j hj,hi2]
 ·have hg2:=gset W g (i * 3 + j) u
  have hne:g ≠ ib:=fun e=>row_box h.es h.box (by decide) (by rw [<-e]; rfl)
  refine ⟨⟨?_,h.lo,h.ns.kept hg2 (row_apart h.ns h.es (by decide)),?_⟩,(Below.refl B W).setCell hB _⟩
  ·rw [List.length_set]; exact h.box.other hne _ _
  ·rw [List.length_set]; exact own_setG layEg h.es rfl hi1 hj u x (by rw [hi2]; exact hx)
end
theorem iadd_any {B ib:Nat} {N:List Nd} {E:List Eg} {w:World} (h:IxG B ib N E w) (hN:(N.length:Int)<=1000000) (hE:(E.length:Int)<=1000000) (v:Nat) (hv:v < N.length) (c:UInt8) (tg:Nat) :
  Calls Tryz.prog 152 #[.pointer (some ⟨ib,0,none⟩),.int .i64 (v:Int),.int .u8 (c.toNat:Int),.int .i64 (tg:Int)] w fun e w'=>e = .returned (.tuple #[])/\Hid (IxG B ib (N.set v { nd N v with edge:=((E.length:Nat):Int) }) (E ++ [⟨c,tg,(nd N v).edge⟩]) w')/\Below B w w':=by
 obtain ⟨na,nc,ea,ec,h⟩:=h
 have hd:IxB B ib N E na nc ea ec w.drew:=⟨h.box,h.lo,h.ns,h.es⟩
 obtain ⟨ea',ec',W1,HRUN,hk1,hn1,hb1,hB1⟩:=hd.pushE ⟨c,tg,(nd N v).edge⟩ hE
 obtain ⟨W2,hW2⟩:∃ W2,W2=W1.setCell ⟨ib,1,none⟩ (.slice ea' (E.length + 1) ec'):=⟨_,rfl⟩
 rw [<-hW2] at hb1 hB1
 have hb2:IxB B ib N (E ++ [⟨c,tg,(nd N v).edge⟩]) na nc ea' ec' W2.drew:=⟨hb1.box,hb1.lo,hb1.ns,hb1.es⟩
 obtain ⟨g,hg1,hfz,hcl,hst⟩:=hb2.setN (v:=v) (by exact hv)
 obtain ⟨hR1,hR2⟩:=hst { nd N v with edge:=((E.length:Nat):Int) } 3 (.int .i64 ((E.length:Nat):Int)) (by decide) rfl
 have hbd:Below B W2 W2.drew:=(Below.refl _ _).drew
 have HRES:Hid (IxG B ib (N.set v { nd N v with edge:=((E.length:Nat):Int) }) (E ++ [⟨c,tg,(nd N v).edge⟩]) (W2.drew.setCell ⟨g,v * 4 + 3,none⟩ (.int .i64 ((E.length:Nat):Int)))/\Below B w (W2.drew.setCell ⟨g,v * 4 + 3,none⟩ (.int .i64 ((E.length:Nat):Int)))):=hid ⟨⟨_,_,_,_,hR1⟩,(((Below.refl B w).drew.trans hB1).trans hbd).trans hR2⟩
 subst hg1
 -- what the loads read,in each of the worlds
 obtain ⟨nn,hnn⟩:∃ nn,nn=N.length:=⟨_,rfl⟩
 obtain ⟨m,hm⟩:∃ m,m=E.length:=⟨_,rfl⟩
 rw [<-hm] at HRUN HRES hW2 hE ⊢
 have hbx:=hd.box
 have hbx2:=hb2.box
 have hl2:(E ++ [(⟨c,tg,(nd N v).edge⟩:Eg)]).length=m + 1:=by rw [hm]; simp
 rw [hl2,<-hnn] at hbx2
 rw [<-hm,<-hnn] at hbx hk1
 rw [<-hnn] at hv hN
 have hvi:(v:Int) < (nn:Int):=by omega
 obtain ⟨nb,no,haa,_,n0,n1,n2,n3⟩:=nd_cells hd.gns (k:=v) (by omega)
 cases haa
 obtain ⟨nb,no,haa,_,p0,p1,p2,p3⟩:=nd_cells (own_gin layNd rfl hn1) (k:=v) (by omega)
 cases haa
 have hc3:=hcl 3 (by decide)
 rw [show (ndCs (nd N v))[3]? = some (.int .i64 (nd N v).edge) from rfl] at hc3
 have hf3:=hfz (v * 4 + 3)
 generalize (nd N v).edge=e0 at *
 rw [Nat.zero_add] at n3 p3
 have HA:Hid (∀ W,Below w.drew.heap.size w.drew W->W.cell? ⟨ib,0,none⟩=some (.slice (some ⟨g,0,none⟩) nn nc)/\W.cell? ⟨ib,1,none⟩=some (.slice ea m ec)/\W.cell? ⟨g,v * 4 + 3,none⟩=some (.int .i64 e0)):=hid (fun W hb=>by
  have h1:=hbx.below hb
  have hgl:=World.block_lt_of_cell? _ _ n3
  exact ⟨h1.c2.1,h1.c2.2,(hb.cell hgl).trans n3⟩)
 have HS1:Hid (W1.cell? ⟨ib,0,none⟩=some (.slice (some ⟨g,0,none⟩) nn nc)/\W1.cell? ⟨ib,1,none⟩=some (.slice ea m ec)/\W1.cell? ⟨g,v * 4 + 3,none⟩=some (.int .i64 e0)):=hid ⟨hk1.c2.1,hk1.c2.2,p3⟩
 have hs0:=HA.out w.drew (Below.refl _ _)
 have hs1:=HA.out (w.drew.alloc (.cells (egCs ⟨c,tg,e0⟩).toArray 211)) ((Below.refl _ _).alloc (Nat.le_refl _) _)
 have hk1f:=hk1.frozen 1
 have h2c:W2.drew.cell? ⟨ib,0,none⟩=some (.slice (some ⟨g,0,none⟩) nn nc)/\W2.drew.cell? ⟨ib,1,none⟩=some (.slice ea' (m + 1) ec'):=hbx2.c2
 have hwm:IntKind.i64.wrap (((m:Int) + 1) - 1)=(m:Int):=by rw [wrap_i64 (by omega) (by omega)]; omega
 have hwm2:IntKind.i64.wrap (m:Int)=(m:Int):=wrap_i64 (by omega) (by omega)
 have HW2:=hid hW2
 simp only [egCs] at HRUN hs1
 generalize (c.toNat:Int)=lc at *
 clear h hd hk1 hn1 hb1 hB1 hb2 hst hR1 hR2 hbd hbx hbx2 hl2 n0 n1 n2 p0 p1 p2 p3 hcl hfz hm hnn HA hW2
 go_enter Tryz.func152,Tryz.ntmps152
 go_wp2_with fail
 refine wp_region_L (S:=(fun W=>W.cell? ⟨ib,0,none⟩=some (.slice (some ⟨g,0,none⟩) nn nc)/\W.cell? ⟨ib,1,none⟩=some (.slice ea m ec)/\W.cell? ⟨g,v * 4 + 3,none⟩=some (.int .i64 e0))) [20] (by kernel_rfl) hs0 (fun hHeld=>?_)
 refine anyL_take (i:=0) (v:=?vv27) rfl (by kernel_rfl) (by kernel_rfl) (by kernel_rfl) (by kernel_rfl) (fun _ _ _ h=>h) (Or.inl ⟨by rfl,?hy27⟩) (by assumption) ?rest27
 case hy27=>(intro wx hSw; (try dsimp only at hSw); go_simp; try (with_reducible rfl))
 simp only [Act.put,zA,zC,zD,zE,zF]
 refine anyL_take (i:=1) (v:=?vv28) rfl (by kernel_rfl) (by kernel_rfl) (by kernel_rfl) (by kernel_rfl) (fun _ _ _ h=>h) (Or.inl ⟨by rfl,?hy28⟩) (by assumption) ?rest28
 case hy28=>(intro wx hSw; (try dsimp only at hSw); go_simp; try (with_reducible rfl))
 simp only [Act.put,zA,zB,zC,zD,zE,zF]
 refine anyL_take (i:=2) (v:=?vv29) rfl (by kernel_rfl) (by kernel_rfl) (by kernel_rfl) (by kernel_rfl) (fun _ _ _ h=>h) (Or.inl ⟨by rfl,?hy29⟩) (by assumption) ?rest29
 case hy29=>(intro wx hSw; (try dsimp only at hSw); go_simp; try (with_reducible rfl))
 simp only [Act.put,zA,zB,zC,zD,zE,zF]
 refine anyL_take (i:=3) (v:=?vv30) rfl (by kernel_rfl) (by kernel_rfl) (by kernel_rfl) (by kernel_rfl) (fun _ _ _ h=>h) (Or.inl ⟨by rfl,?hy30⟩) (by assumption) ?rest30
 case hy30=>(intro wx hSw; (try dsimp only at hSw); go_simp; try (with_reducible rfl))
 simp only [Act.put,zA,zB,zC,zD,zE,zF]
 refine anyL_take (i:=4) (v:=?vv31) rfl (by kernel_rfl) (by kernel_rfl) (by kernel_rfl) (by kernel_rfl) (fun _ _ _ h=>h) (Or.inl ⟨by rfl,?hy31⟩) (by assumption) ?rest31
 case hy31=>(intro wx hSw; (try dsimp only at hSw); go_simp; try (with_reducible rfl))
 simp only [Act.put,zA,zB,zC,zD,zE,zF]
 refine anyL_take (i:=5) (v:=?vv32) rfl (by kernel_rfl) (by kernel_rfl) (by kernel_rfl) (by kernel_rfl) (fun _ _ _ h=>h) (Or.inl ⟨by rfl,?hy32⟩) (by assumption) ?rest32
 case hy32=>(intro wx hSw; (try dsimp only at hSw); go_simp; try (with_reducible rfl))
 simp only [Act.put,zA,zB,zC,zD,zE,zF]
 refine anyL_take (i:=6) (v:=?vv33) rfl (by kernel_rfl) (by kernel_rfl) (by kernel_rfl) (by kernel_rfl) (fun _ _ _ h=>h) (Or.inl ⟨by rfl,?hy33⟩) (by assumption) ?rest33
 case hy33=>(intro wx hSw; (try dsimp only at hSw); go_simp; try (with_reducible rfl))
 simp only [Act.put,zA,zB,zC,zD,zE,zF]
 refine anyL_take (i:=7) (v:=?vv34) rfl (by kernel_rfl) (by kernel_rfl) (by kernel_rfl) (by kernel_rfl) (fun _ _ _ h=>h) (Or.inl ⟨by rfl,?hy34⟩) (by assumption) ?rest34
 case hy34=>(intro wx hSw; (try dsimp only at hSw); go_simp; try (with_reducible rfl))
 simp only [Act.put,zA,zB,zC,zD,zE,zF]
 refine anyL_take (i:=8) (v:=?vv35) rfl (by kernel_rfl) (by kernel_rfl) (by kernel_rfl) (by kernel_rfl) (fun _ _ _ h=>h) (Or.inl ⟨by rfl,?hy35⟩) (by assumption) ?rest35
 case hy35=>(intro wx hSw; (try dsimp only at hSw); go_simp; try (with_reducible rfl))
 simp only [Act.put,zA,zB,zC,zD,zE,zF]
 refine anyL_take (i:=9) (v:=?vv36) rfl (by kernel_rfl) (by kernel_rfl) (by kernel_rfl) (by kernel_rfl) (fun _ _ _ h=>h) (Or.inl ⟨by rfl,?hy36⟩) (by assumption) ?rest36
 case hy36=>(intro wx hSw; (try dsimp only at hSw); go_simp; try (with_reducible rfl))
 simp only [Act.put,zA,zB,zC,zD,zE,zF]
 refine anyL_take (i:=10) (v:=?vv37) rfl (by kernel_rfl) (by kernel_rfl) (by kernel_rfl) (by kernel_rfl) (fun _ _ _ h=>h) (Or.inl ⟨by rfl,?hy37⟩) (by assumption) ?rest37
 case hy37=>(intro wx hSw; (try dsimp only at hSw); go_simp; try (with_reducible rfl))
 simp only [Act.put,zA,zB,zC,zD,zE,zF]
 refine anyL_take (i:=11) (v:=?vv38) rfl (by kernel_rfl) (by kernel_rfl) (by kernel_rfl) (by kernel_rfl) (fun _ _ _ h=>h) (Or.inl ⟨by rfl,?hy38⟩) (by assumption) ?rest38
 case hy38=>(intro wx hSw; (try dsimp only at hSw); go_simp; try (with_reducible rfl))
 simp only [Act.put,zA,zB,zC,zD,zE,zF]
 refine anyL_take (i:=12) (v:=?vv39) rfl (by kernel_rfl) (by kernel_rfl) (by kernel_rfl) (by kernel_rfl) (fun _ _ _ h=>h) (Or.inl ⟨by rfl,?hy39⟩) (by assumption) ?rest39
 case hy39=>(intro wx hSw; (try dsimp only at hSw); go_simp; try (with_reducible rfl))
 simp only [Act.put,zA,zB,zC,zD,zE,zF]
 refine anyL_take (i:=13) (v:=?vv40) rfl (by kernel_rfl) (by kernel_rfl) (by kernel_rfl) (by kernel_rfl) (fun _ _ _ h=>h) (Or.inl ⟨by rfl,?hy40⟩) (by assumption) ?rest40
 case hy40=>(intro wx hSw; (try dsimp only at hSw); go_simp; try (with_reducible rfl))
 simp only [Act.put,zA,zB,zC,zD,zE,zF]
 refine anyL_take (i:=14) (v:=?vv41) rfl (by kernel_rfl) (by kernel_rfl) (by kernel_rfl) (by kernel_rfl) (fun _ _ _ h=>h) (Or.inl ⟨by rfl,?hy41⟩) (by assumption) ?rest41
 case hy41=>(intro wx hSw; (try dsimp only at hSw); go_simp; try (with_reducible rfl))
 simp only [Act.put,zA,zB,zC,zD,zE,zF]
 refine anyL_take (i:=15) (v:=?vv42) rfl (by kernel_rfl) (by kernel_rfl) (by kernel_rfl) (by kernel_rfl) (fun _ _ _ h=>h) (Or.inl ⟨by rfl,?hy42⟩) (by assumption) ?rest42
 case hy42=>(intro wx hSw; (try dsimp only at hSw); go_simp; try (with_reducible rfl))
 simp only [Act.put,zA,zB,zC,zD,zE,zF]
 refine anyL_one (i:=16) (by kernel_rfl) rfl (fun K hK=>?_)
 go_simp
 refine hK.out _ _ ((fun _=>hs1)) (fun hHeld=>?_)
 clear hK K
 refine anyL_one (i:=17) (by kernel_rfl) rfl (fun K hK=>?_)
 refine step_append_run (by rfl) (.tmp 12) (.tmp 24) _ _ (by rfl) _ _ (by rfl) (by rfl) _ _ HRUN.out ?_
 clear hHeld hs1
 have hs2:=HS1.out
 refine hK.out _ _ ((fun _=>hs2)) (fun hHeld=>?_)
 clear hK K
 refine anyL_take (i:=18) (v:=?vv43) rfl (by kernel_rfl) (by kernel_rfl) (by kernel_rfl) (by kernel_rfl) (fun _ _ _ h=>h) (Or.inl ⟨by rfl,?hy43⟩) (by assumption) ?rest43
 case hy43=>(intro wx hSw; (try dsimp only at hSw); go_simp; try (with_reducible rfl))
 simp only [Act.put,zA,zB,zC,zD,zE,zF]
 refine anyL_take (i:=19) (v:=?vv44) rfl (by kernel_rfl) (by kernel_rfl) (by kernel_rfl) (by kernel_rfl) (fun _ _ _ h=>h) (Or.inl ⟨by rfl,?hy44⟩) (by assumption) ?rest44
 case hy44=>(intro wx hSw; (try dsimp only at hSw); go_simp; try (with_reducible rfl))
 simp only [Act.put,zA,zB,zC,zD,zE,zF]
 refine anyL_one (i:=20) (by kernel_rfl) rfl (fun K hK=>?_)
 have hk10:=hs2.2.1
 go_simp
 refine hK.out _ _ ((fun h=>absurd h (by decide))) (fun hHeld=>?_)
 clear hK K
 refine anyL_done (by kernel_rfl) ?_ _
 rw [<-HW2.out]
 clear hs0 hs2 hk10 HS1 HRUN HW2 hk1f
 go_wp2_with fail
 refine wp_region_L (S:=(fun W=>W.cell? ⟨ib,0,none⟩=some (.slice (some ⟨g,0,none⟩) nn nc)/\W.cell? ⟨ib,1,none⟩=some (.slice ea' (m + 1) ec'))) [13] (by kernel_rfl) h2c (fun hHeld=>?_)
 refine anyL_take (i:=0) (v:=?vv45) rfl (by kernel_rfl) (by kernel_rfl) (by kernel_rfl) (by kernel_rfl) (fun _ _ _ h=>h) (Or.inl ⟨by rfl,?hy45⟩) (by assumption) ?rest45
 case hy45=>(intro wx hSw; (try dsimp only at hSw); go_simp; try (with_reducible rfl))
 simp only [Act.put,zA,zC,zD,zE,zF]
 refine anyL_take (i:=1) (v:=?vv46) rfl (by kernel_rfl) (by kernel_rfl) (by kernel_rfl) (by kernel_rfl) (fun _ _ _ h=>h) (Or.inl ⟨by rfl,?hy46⟩) (by assumption) ?rest46
 case hy46=>(intro wx hSw; (try dsimp only at hSw); go_simp; try (with_reducible rfl))
 simp only [Act.put,zA,zB,zC,zD,zE,zF]
 refine anyL_take (i:=2) (v:=?vv47) rfl (by kernel_rfl) (by kernel_rfl) (by kernel_rfl) (by kernel_rfl) (fun _ _ _ h=>h) (Or.inl ⟨by rfl,?hy47⟩) (by assumption) ?rest47
 case hy47=>(intro wx hSw; (try dsimp only at hSw); go_simp; try (with_reducible rfl))
 simp only [Act.put,zA,zB,zC,zD,zE,zF]
 refine anyL_take (i:=3) (v:=?vv48) rfl (by kernel_rfl) (by kernel_rfl) (by kernel_rfl) (by kernel_rfl) (fun _ _ _ h=>h) (Or.inl ⟨by rfl,?hy48⟩) (by assumption) ?rest48
 case hy48=>(intro wx hSw; (try dsimp only at hSw); go_simp; try (with_reducible rfl))
 simp only [Act.put,zA,zB,zC,zD,zE,zF]
 refine anyL_take (i:=4) (v:=?vv49) rfl (by kernel_rfl) (by kernel_rfl) (by kernel_rfl) (by kernel_rfl) (fun _ _ _ h=>h) (Or.inl ⟨by rfl,?hy49⟩) (by assumption) ?rest49
 case hy49=>(intro wx hSw; (try dsimp only at hSw); go_simp; try (with_reducible rfl))
 simp only [Act.put,zA,zB,zC,zD,zE,zF]
 refine anyL_take (i:=5) (v:=?vv50) rfl (by kernel_rfl) (by kernel_rfl) (by kernel_rfl) (by kernel_rfl) (fun _ _ _ h=>h) (Or.inl ⟨by rfl,?hy50⟩) (by assumption) ?rest50
 case hy50=>(intro wx hSw; (try dsimp only at hSw); go_simp; try (with_reducible rfl))
 simp only [Act.put,zA,zB,zC,zD,zE,zF]
 refine anyL_take (i:=6) (v:=?vv51) rfl (by kernel_rfl) (by kernel_rfl) (by kernel_rfl) (by kernel_rfl) (fun _ _ _ h=>h) (Or.inl ⟨by rfl,?hy51⟩) (by assumption) ?rest51
 case hy51=>(intro wx hSw; (try dsimp only at hSw); go_simp; try (with_reducible rfl))
 simp only [Act.put,zA,zB,zC,zD,zE,zF]
 refine anyL_take (i:=7) (v:=?vv52) rfl (by kernel_rfl) (by kernel_rfl) (by kernel_rfl) (by kernel_rfl) (fun _ _ _ h=>h) (Or.inl ⟨by rfl,?hy52⟩) (by assumption) ?rest52
 case hy52=>(intro wx hSw; (try dsimp only at hSw); go_simp; try (with_reducible rfl))
 simp only [Act.put,zA,zB,zC,zD,zE,zF]
 refine anyL_take (i:=8) (v:=?vv53) rfl (by kernel_rfl) (by kernel_rfl) (by kernel_rfl) (by kernel_rfl) (fun _ _ _ h=>h) (Or.inl ⟨by rfl,?hy53⟩) (by assumption) ?rest53
 case hy53=>(intro wx hSw; (try dsimp only at hSw); go_simp; try (with_reducible rfl))
 simp only [Act.put,zA,zB,zC,zD,zE,zF]
 refine anyL_take (i:=9) (v:=?vv54) rfl (by kernel_rfl) (by kernel_rfl) (by kernel_rfl) (by kernel_rfl) (fun _ _ _ h=>h) (Or.inl ⟨by rfl,?hy54⟩) (by assumption) ?rest54
 case hy54=>(intro wx hSw; (try dsimp only at hSw); go_simp; try (with_reducible rfl))
 simp only [Act.put,zA,zB,zC,zD,zE,zF]
 refine anyL_take (i:=10) (v:=?vv55) rfl (by kernel_rfl) (by kernel_rfl) (by kernel_rfl) (by kernel_rfl) (fun _ _ _ h=>h) (Or.inl ⟨by rfl,?hy55⟩) (by assumption) ?rest55
 case hy55=>(intro wx hSw; (try dsimp only at hSw); go_simp; try (with_reducible rfl))
 simp only [Act.put,zA,zB,zC,zD,zE,zF]
 refine anyL_take (i:=11) (v:=?vv56) rfl (by kernel_rfl) (by kernel_rfl) (by kernel_rfl) (by kernel_rfl) (fun _ _ _ h=>h) (Or.inl ⟨by rfl,?hy56⟩) (by assumption) ?rest56
 case hy56=>(intro wx hSw; (try dsimp only at hSw); go_simp; try (with_reducible rfl))
 simp only [Act.put,zA,zB,zC,zD,zE,zF]
 refine anyL_take (i:=12) (v:=?vv57) rfl (by kernel_rfl) (by kernel_rfl) (by kernel_rfl) (by kernel_rfl) (fun _ _ _ h=>h) (Or.inl ⟨by rfl,?hy57⟩) (by assumption) ?rest57
 case hy57=>(intro wx hSw; (try dsimp only at hSw); go_simp; try (with_reducible rfl))
 simp only [Act.put,zA,zB,zC,zD,zE,zF]
 refine anyL_one (i:=13) (by kernel_rfl) rfl (fun K hK=>?_)
 go_simp
 refine hK.out _ _ ((fun h=>absurd h (by decide))) (fun hHeld=>?_)
 clear hK K
 refine anyL_done (by kernel_rfl) ?_ _
 clear h2c hc3 hf3
 go_wp2_with fail
 go_end0
 exact ⟨rfl,hid HRES.out.1,HRES.out.2⟩
def lkM (N0:List Nd) (p:Int):Nat:=if p < 0 then 0 else (nd N0 p.toNat).len + 1
theorem lkM_neg (N0:List Nd):lkM N0 (-1)=0:=by unfold lkM; rw [if_pos (by omega)]
theorem lkM_nat (N0:List Nd) (k:Nat):lkM N0 (k:Int)=(nd N0 k).len + 1:=by unfold lkM; rw [if_neg (by omega)]; rfl
section
variable {s:List UInt8} {c:UInt8} {N0:List Nd} {E0:List Eg} {T0:Tmap} {W:Nat->List UInt8}
theorem lkM_link (ha:AutC s N0 E0 T0 W) {k:Nat} (hk:k < N0.length) (hs:W k <:+ s):lkM N0 (nd N0 k).link < lkM N0 (k:Int):=by
 rw [lkM_nat]
 rcases link_at ha.au hk hs with h1 | ⟨u,h1,h2,h3,h4⟩
 ·have:(nd N0 k).link = -1:=h1
  rw [this,lkM_neg]; omega
 ·have:(nd N0 k).link=(u:Int):=h1
  have e1:(nd N0 u).len=(W u).length:=ha.au.len u h2
  have e2:(nd N0 k).len=(W k).length:=ha.au.len k hk
  rw [this,lkM_nat]; omega
def SplitR (s:List UInt8) (c:UInt8) (N0:List Nd) (W:Nat->List UInt8) (p0:Nat) (B ib:Nat) (w':World):Prop:=∃ N E T,IxG B ib N E w'/\N.length=N0.length + 2/\E.length<=1000000/\
 AutC (s ++ [c]) (N.set N0.length { nd N N0.length with link:=((N0.length + 1:Nat):Int) }) E T (fun k=>if k=N0.length then s ++ [c] else if k=N0.length + 1 then W p0 ++ [c] else W k)
end
theorem isplit_any {B ib:Nat} {s:List UInt8} {c:UInt8} {N0:List Nd} {E0:List Eg} {T0:Tmap} {W:Nat->List UInt8} {N1:List Nd} {E1:List Eg} {T1:Tmap} {k q:Nat} {w:World} (ha:AutC s N0 E0 T0 W) (h1:Lp1 s c N0 T0 W N1 E1 T1 ((k:Nat):Int)) (hk:k < N0.length) (hs:W k <:+ s) (hq:trU T1 k c=some q) (hl:¬ (nd N1 q).len<=(nd N1 k).len + 1) (hls:s.length<=1000) (h:IxG B ib N1 E1 w) :
  Calls Tryz.prog 153 #[.pointer (some ⟨ib,0,none⟩),.int .i64 (k:Int),.int .i64 (q:Int),.int .u8 (c.toNat:Int)] w fun e w'=>e = .returned (.int .i64 ((N0.length + 1:Nat):Int))/\Hid (SplitR s c N0 W k B ib w')/\Below B w w':=by
 obtain ⟨hq0,hqn,htop,hext,el1,el2⟩:=h1.top ha hk hs hq
 have hlen0:=ha.ln
 have hN1:=h1.ln
 have hx1:=h1.ix.elen
 obtain ⟨na,nc,ea,ec,h⟩:=h
 have hd:IxB B ib N1 E1 na nc ea ec w.drew:=⟨h.box,h.lo,h.ns,h.es⟩
 obtain ⟨na',nc',W1,HRUN,hk1,he1,hb1,hB1⟩:=hd.pushN ⟨(nd N1 k).len + 1,(nd N1 q).link,(nd N1 q).fin,-1⟩ (by omega)
 obtain ⟨W2,hW2⟩:∃ W2,W2=W1.setCell ⟨ib,0,none⟩ (.slice na' (N1.length + 1) nc'):=⟨_,rfl⟩
 rw [<-hW2] at hb1 hB1
 have HL2:=hid (Lp2.start h1.ix (q:=q) (by omega) ((nd N1 k).len + 1) (nd N1 q).link (nd N1 q).fin)
 have HCH:=hid (h1.ix.ch q (by omega))
 have HG2:Hid (IxG B ib (N1 ++ [⟨(nd N1 k).len + 1,(nd N1 q).link,(nd N1 q).fin,-1⟩]) E1 W2):=hid ⟨_,_,_,_,hb1⟩
 have HBW:Hid (Below B w W2):=hid ((Below.refl B w).drew.trans hB1)
 obtain ⟨pb,po,haa,_,p0,p1,p2,p3⟩:=nd_cells hd.gns (k:=k) (by omega)
 obtain ⟨nb,no,haa2,_,n0,n1,n2,n3⟩:=nd_cells hd.gns (k:=q) (by omega)
 rw [haa] at haa2
 cases haa2
 have hbx2:=hb1.box
 obtain ⟨g2b,g2o,haa3,_,y0,y1,y2,y3⟩:=nd_cells hb1.gns (k:=q) (by simp; omega)
 have hq3:nd (N1 ++ [(⟨(nd N1 k).len + 1,(nd N1 q).link,(nd N1 q).fin,-1⟩:Nd)]) q=nd N1 q:=by rw [nd_push _ (by omega),if_neg (by omega)]
 rw [hq3] at y3
 obtain ⟨nn,hnn⟩:∃ nn,nn=N1.length:=⟨_,rfl⟩
 obtain ⟨m,hm⟩:∃ m,m=E1.length:=⟨_,rfl⟩
 have hl2:(N1 ++ [(⟨(nd N1 k).len + 1,(nd N1 q).link,(nd N1 q).fin,-1⟩:Nd)]).length=nn + 1:=by rw [hnn]; simp
 have hbx:=hd.box
 rw [hl2,<-hm] at hbx2
 rw [<-hm,<-hnn] at hbx hk1
 rw [<-hnn] at HRUN hW2
 have hki:(k:Int) < (nn:Int):=by omega
 have hqi:(q:Int) < (nn:Int):=by omega
 have hqi2:(q:Int) < (nn:Int) + 1:=by omega
 have hnb:(nn:Int)<=3000:=by omega
 have hwl:IntKind.i64.wrap (((nd N1 k).len:Int) + 1)=(((nd N1 k).len + 1:Nat):Int):=by
  have:(W k).length<=s.length:=hs.length_le
  rw [wrap_i64 (by omega) (by omega)]; omega
 have HT:=hid hl
 have HELS:Hid ((nd N1 q).len=(W q).length/\(nd N1 k).len=(W k).length):=hid ⟨el1,el2⟩
 have HNN:Hid (nn=N1.length):=hid hnn
 have hS:∀ Wx,Below w.drew.heap.size w.drew Wx->Wx.cell? ⟨ib,0,none⟩=some (.slice na nn nc)/\Wx.cell? ⟨pb,po + k * 4,none⟩=some (.int .i64 ((nd N1 k).len:Int))/\Wx.cell? ⟨pb,po + q * 4 + 1,none⟩=some (.int .i64 (nd N1 q).link)/\Wx.cell? ⟨pb,po + q * 4 + 2,none⟩=some (.int .i64 ((nd N1 q).fin:Int)):=fun Wx hb=>by
  have hpl:=World.block_lt_of_cell? _ _ p0
  exact ⟨(hbx.below hb).c2.1,(hb.cell hpl).trans p0,(hb.cell (p:=⟨pb,po + q * 4 + 1,none⟩) hpl).trans n1,(hb.cell (p:=⟨pb,po + q * 4 + 2,none⟩) hpl).trans n2⟩
 rw [haa] at hS HRUN hbx hk1
 have hs0:=hS _ (Below.refl _ _)
 have hs1:=hS (w.drew.alloc (.cells (ndCs ⟨(nd N1 k).len + 1,(nd N1 q).link,(nd N1 q).fin,-1⟩).toArray 184)) ((Below.refl _ _).alloc (Nat.le_refl _) _)
 have HW2:=hid hW2
 have hk1f:=hk1.frozen 0
 have hk1c:=hk1.c2.1
 have h2c:=hbx2.c2
 have hy3:W2.cell? ⟨g2b,g2o + q * 4 + 3,none⟩=some (.int .i64 (nd N1 q).edge):=y3
 rw [haa3] at h2c HRUN hW2 HW2
 simp only [ndCs] at HRUN hs1
 have HX:Hid (∃ x:Nd,x=⟨(nd N1 k).len + 1,(nd N1 q).link,(nd N1 q).fin,-1⟩/\Lp2 N1 T1 q x (N1 ++ [x]) E1 (updT T1 N1.length []) (nd N1 q).edge [] (T1 q)/\IxG B ib (N1 ++ [x]) E1 W2):=hid ⟨_,rfl,HL2.out,HG2.out⟩
 clear HL2 HG2
 have hkl:(nd N1 k).len + 1<=100000:=by have:(W k).length<=s.length:=hs.length_le; omega
 clear h hd hb1 hB1 hbx hbx2 hk1 he1 p0 p1 p2 p3 n0 n1 n2 n3 y0 y1 y2 y3 hl2 hq3 hS haa haa3 hW2 hnn hm el1 el2
 generalize hlk:(nd N1 k).len=lk at *
 generalize hql:(nd N1 q).link=ql at *
 generalize hqf:(nd N1 q).fin=qf at *
 generalize hqe:(nd N1 q).edge=e0 at *
 obtain ⟨lk1,hlk1⟩:∃ lk1:Nat,lk1=lk + 1:=⟨_,rfl⟩
 rw [<-hlk1] at hwl HRUN hs1
 have HLK:=hid hlk
 have HLK1:=hid hlk1
 have HQL:=hid hql
 have HQF:=hid hqf
 obtain ⟨lc,hlc⟩:∃ lc:Int,lc=(c.toNat:Int):=⟨_,rfl⟩
 have HLC:=hid hlc
 rw [<-hlc]
 clear hlk hql hqf hqe hlk1 hlc
 go_enter Tryz.func153,Tryz.ntmps153
 go_wp2_with fail
 refine wp_region_L (S:=(fun Wx=>Wx.cell? ⟨ib,0,none⟩=some (.slice (some ⟨pb,po,none⟩) nn nc)/\Wx.cell? ⟨pb,po + k * 4,none⟩=some (.int .i64 (lk:Int))/\Wx.cell? ⟨pb,po + q * 4 + 1,none⟩=some (.int .i64 ql)/\Wx.cell? ⟨pb,po + q * 4 + 2,none⟩=some (.int .i64 (qf:Int)))) [32,33,34,35] (by kernel_rfl) hs0 (fun hHeld=>?_)
 refine anyL_take0 (i:=0) (v:=?vv58) rfl (by kernel_rfl) (by kernel_rfl) (by kernel_rfl) (by kernel_rfl) (fun _ _ _ h=>h) (Or.inl ⟨by rfl,?hy58⟩) (by assumption) ?rest58
 case hy58=>(intro wx hSw; go_simp; try (with_reducible rfl))
 simp only [Act.put,zA,zC,zD,zE,zF]
 refine anyL_take (i:=1) (v:=?vv59) rfl (by kernel_rfl) (by kernel_rfl) (by kernel_rfl) (by kernel_rfl) (fun _ _ _ h=>h) (Or.inl ⟨by rfl,?hy59⟩) (by assumption) ?rest59
 case hy59=>(intro wx hSw; (try dsimp only at hSw); go_simp; try (with_reducible rfl))
 simp only [Act.put,zA,zB,zC,zD,zE,zF]
 refine anyL_take (i:=2) (v:=?vv60) rfl (by kernel_rfl) (by kernel_rfl) (by kernel_rfl) (by kernel_rfl) (fun _ _ _ h=>h) (Or.inl ⟨by rfl,?hy60⟩) (by assumption) ?rest60
 case hy60=>(intro wx hSw; (try dsimp only at hSw); go_simp; try (with_reducible rfl))
 simp only [Act.put,zA,zB,zC,zD,zE,zF]
 refine anyL_take (i:=3) (v:=?vv61) rfl (by kernel_rfl) (by kernel_rfl) (by kernel_rfl) (by kernel_rfl) (fun _ _ _ h=>h) (Or.inl ⟨by rfl,?hy61⟩) (by assumption) ?rest61
 case hy61=>(intro wx hSw; (try dsimp only at hSw); go_simp; try (with_reducible rfl))
 simp only [Act.put,zA,zB,zC,zD,zE,zF]
 refine anyL_take (i:=4) (v:=?vv62) rfl (by kernel_rfl) (by kernel_rfl) (by kernel_rfl) (by kernel_rfl) (fun _ _ _ h=>h) (Or.inl ⟨by rfl,?hy62⟩) (by assumption) ?rest62
 case hy62=>(intro wx hSw; (try dsimp only at hSw); go_simp; try (with_reducible rfl))
 simp only [Act.put,zA,zB,zC,zD,zE,zF]
 refine anyL_take (i:=5) (v:=?vv63) rfl (by kernel_rfl) (by kernel_rfl) (by kernel_rfl) (by kernel_rfl) (fun _ _ _ h=>h) (Or.inl ⟨by rfl,?hy63⟩) (by assumption) ?rest63
 case hy63=>(intro wx hSw; (try dsimp only at hSw); go_simp; try (with_reducible rfl))
 simp only [Act.put,zA,zB,zC,zD,zE,zF]
 refine anyL_take (i:=6) (v:=?vv64) rfl (by kernel_rfl) (by kernel_rfl) (by kernel_rfl) (by kernel_rfl) (fun _ _ _ h=>h) (Or.inl ⟨by rfl,?hy64⟩) (by assumption) ?rest64
 case hy64=>(intro wx hSw; (try dsimp only at hSw); go_simp; try (with_reducible rfl))
 simp only [Act.put,zA,zB,zC,zD,zE,zF]
 refine anyL_take (i:=7) (v:=?vv65) rfl (by kernel_rfl) (by kernel_rfl) (by kernel_rfl) (by kernel_rfl) (fun _ _ _ h=>h) (Or.inl ⟨by rfl,?hy65⟩) (by assumption) ?rest65
 case hy65=>(intro wx hSw; (try dsimp only at hSw); go_simp; try (with_reducible rfl))
 simp only [Act.put,zA,zB,zC,zD,zE,zF]
 refine anyL_take (i:=8) (v:=?vv66) rfl (by kernel_rfl) (by kernel_rfl) (by kernel_rfl) (by kernel_rfl) (fun _ _ _ h=>h) (Or.inl ⟨by rfl,?hy66⟩) (by assumption) ?rest66
 case hy66=>(intro wx hSw; (try dsimp only at hSw); go_simp; try (with_reducible rfl))
 simp only [Act.put,zA,zB,zC,zD,zE,zF]
 refine anyL_take (i:=9) (v:=?vv67) rfl (by kernel_rfl) (by kernel_rfl) (by kernel_rfl) (by kernel_rfl) (fun _ _ _ h=>h) (Or.inl ⟨by rfl,?hy67⟩) (by assumption) ?rest67
 case hy67=>(intro wx hSw; (try dsimp only at hSw); go_simp; try (with_reducible rfl))
 simp only [Act.put,zA,zB,zC,zD,zE,zF]
 refine anyL_take (i:=10) (v:=?vv68) rfl (by kernel_rfl) (by kernel_rfl) (by kernel_rfl) (by kernel_rfl) (fun _ _ _ h=>h) (Or.inl ⟨by rfl,?hy68⟩) (by assumption) ?rest68
 case hy68=>(intro wx hSw; (try dsimp only at hSw); go_simp; try (with_reducible rfl))
 simp only [Act.put,zA,zB,zC,zD,zE,zF]
 refine anyL_take (i:=11) (v:=?vv69) rfl (by kernel_rfl) (by kernel_rfl) (by kernel_rfl) (by kernel_rfl) (fun _ _ _ h=>h) (Or.inl ⟨by rfl,?hy69⟩) (by assumption) ?rest69
 case hy69=>(intro wx hSw; (try dsimp only at hSw); go_simp; try (with_reducible rfl))
 simp only [Act.put,zA,zB,zC,zD,zE,zF]
 refine anyL_take (i:=12) (v:=?vv70) rfl (by kernel_rfl) (by kernel_rfl) (by kernel_rfl) (by kernel_rfl) (fun _ _ _ h=>h) (Or.inl ⟨by rfl,?hy70⟩) (by assumption) ?rest70
 case hy70=>(intro wx hSw; (try dsimp only at hSw); go_simp; try (with_reducible rfl))
 simp only [Act.put,zA,zB,zC,zD,zE,zF]
 refine anyL_take (i:=13) (v:=?vv71) rfl (by kernel_rfl) (by kernel_rfl) (by kernel_rfl) (by kernel_rfl) (fun _ _ _ h=>h) (Or.inl ⟨by rfl,?hy71⟩) (by assumption) ?rest71
 case hy71=>(intro wx hSw; (try dsimp only at hSw); go_simp; try (with_reducible rfl))
 simp only [Act.put,zA,zB,zC,zD,zE,zF]
 refine anyL_take (i:=14) (v:=?vv72) rfl (by kernel_rfl) (by kernel_rfl) (by kernel_rfl) (by kernel_rfl) (fun _ _ _ h=>h) (Or.inl ⟨by rfl,?hy72⟩) (by assumption) ?rest72
 case hy72=>(intro wx hSw; (try dsimp only at hSw); go_simp; try (with_reducible rfl))
 simp only [Act.put,zA,zB,zC,zD,zE,zF]
 refine anyL_take (i:=15) (v:=?vv73) rfl (by kernel_rfl) (by kernel_rfl) (by kernel_rfl) (by kernel_rfl) (fun _ _ _ h=>h) (Or.inl ⟨by rfl,?hy73⟩) (by assumption) ?rest73
 case hy73=>(intro wx hSw; (try dsimp only at hSw); go_simp; try (with_reducible rfl))
 simp only [Act.put,zA,zB,zC,zD,zE,zF]
 refine anyL_take (i:=16) (v:=?vv74) rfl (by kernel_rfl) (by kernel_rfl) (by kernel_rfl) (by kernel_rfl) (fun _ _ _ h=>h) (Or.inl ⟨by rfl,?hy74⟩) (by assumption) ?rest74
 case hy74=>(intro wx hSw; (try dsimp only at hSw); go_simp; try (with_reducible rfl))
 simp only [Act.put,zA,zB,zC,zD,zE,zF]
 refine anyL_take (i:=17) (v:=?vv75) rfl (by kernel_rfl) (by kernel_rfl) (by kernel_rfl) (by kernel_rfl) (fun _ _ _ h=>h) (Or.inl ⟨by rfl,?hy75⟩) (by assumption) ?rest75
 case hy75=>(intro wx hSw; (try dsimp only at hSw); go_simp; try (with_reducible rfl))
 simp only [Act.put,zA,zB,zC,zD,zE,zF]
 refine anyL_take (i:=18) (v:=?vv76) rfl (by kernel_rfl) (by kernel_rfl) (by kernel_rfl) (by kernel_rfl) (fun _ _ _ h=>h) (Or.inl ⟨by rfl,?hy76⟩) (by assumption) ?rest76
 case hy76=>(intro wx hSw; (try dsimp only at hSw); go_simp; try (with_reducible rfl))
 simp only [Act.put,zA,zB,zC,zD,zE,zF]
 refine anyL_take (i:=19) (v:=?vv77) rfl (by kernel_rfl) (by kernel_rfl) (by kernel_rfl) (by kernel_rfl) (fun _ _ _ h=>h) (Or.inl ⟨by rfl,?hy77⟩) (by assumption) ?rest77
 case hy77=>(intro wx hSw; (try dsimp only at hSw); go_simp; try (with_reducible rfl))
 simp only [Act.put,zA,zB,zC,zD,zE,zF]
 refine anyL_take (i:=20) (v:=?vv78) rfl (by kernel_rfl) (by kernel_rfl) (by kernel_rfl) (by kernel_rfl) (fun _ _ _ h=>h) (Or.inl ⟨by rfl,?hy78⟩) (by assumption) ?rest78
 case hy78=>(intro wx hSw; (try dsimp only at hSw); go_simp; try (with_reducible rfl))
 simp only [Act.put,zA,zB,zC,zD,zE,zF]
 refine anyL_take (i:=21) (v:=?vv79) rfl (by kernel_rfl) (by kernel_rfl) (by kernel_rfl) (by kernel_rfl) (fun _ _ _ h=>h) (Or.inl ⟨by rfl,?hy79⟩) (by assumption) ?rest79
 case hy79=>(intro wx hSw; (try dsimp only at hSw); go_simp; try (with_reducible rfl))
 simp only [Act.put,zA,zB,zC,zD,zE,zF]
 refine anyL_take (i:=22) (v:=?vv80) rfl (by kernel_rfl) (by kernel_rfl) (by kernel_rfl) (by kernel_rfl) (fun _ _ _ h=>h) (Or.inl ⟨by rfl,?hy80⟩) (by assumption) ?rest80
 case hy80=>(intro wx hSw; (try dsimp only at hSw); go_simp; try (with_reducible rfl))
 simp only [Act.put,zA,zB,zC,zD,zE,zF]
 refine anyL_take (i:=23) (v:=?vv81) rfl (by kernel_rfl) (by kernel_rfl) (by kernel_rfl) (by kernel_rfl) (fun _ _ _ h=>h) (Or.inl ⟨by rfl,?hy81⟩) (by assumption) ?rest81
 case hy81=>(intro wx hSw; (try dsimp only at hSw); go_simp; try (with_reducible rfl))
 simp only [Act.put,zA,zB,zC,zD,zE,zF]
 refine anyL_take (i:=24) (v:=?vv82) rfl (by kernel_rfl) (by kernel_rfl) (by kernel_rfl) (by kernel_rfl) (fun _ _ _ h=>h) (Or.inl ⟨by rfl,?hy82⟩) (by assumption) ?rest82
 case hy82=>(intro wx hSw; (try dsimp only at hSw); go_simp; try (with_reducible rfl))
 simp only [Act.put,zA,zB,zC,zD,zE,zF]
 refine anyL_take (i:=25) (v:=?vv83) rfl (by kernel_rfl) (by kernel_rfl) (by kernel_rfl) (by kernel_rfl) (fun _ _ _ h=>h) (Or.inl ⟨by rfl,?hy83⟩) (by assumption) ?rest83
 case hy83=>(intro wx hSw; (try dsimp only at hSw); go_simp; try (with_reducible rfl))
 simp only [Act.put,zA,zB,zC,zD,zE,zF]
 refine anyL_take (i:=26) (v:=?vv84) rfl (by kernel_rfl) (by kernel_rfl) (by kernel_rfl) (by kernel_rfl) (fun _ _ _ h=>h) (Or.inl ⟨by rfl,?hy84⟩) (by assumption) ?rest84
 case hy84=>(intro wx hSw; (try dsimp only at hSw); go_simp; try (with_reducible rfl))
 simp only [Act.put,zA,zB,zC,zD,zE,zF]
 refine anyL_take (i:=27) (v:=?vv85) rfl (by kernel_rfl) (by kernel_rfl) (by kernel_rfl) (by kernel_rfl) (fun _ _ _ h=>h) (Or.inl ⟨by rfl,?hy85⟩) (by assumption) ?rest85
 case hy85=>(intro wx hSw; (try dsimp only at hSw); go_simp; try (with_reducible rfl))
 simp only [Act.put,zA,zB,zC,zD,zE,zF]
 refine anyL_take (i:=28) (v:=?vv86) rfl (by kernel_rfl) (by kernel_rfl) (by kernel_rfl) (by kernel_rfl) (fun _ _ _ h=>h) (Or.inl ⟨by rfl,?hy86⟩) (by assumption) ?rest86
 case hy86=>(intro wx hSw; (try dsimp only at hSw); go_simp; try (with_reducible rfl))
 simp only [Act.put,zA,zB,zC,zD,zE,zF]
 refine anyL_take (i:=29) (v:=?vv87) rfl (by kernel_rfl) (by kernel_rfl) (by kernel_rfl) (by kernel_rfl) (fun _ _ _ h=>h) (Or.inl ⟨by rfl,?hy87⟩) (by assumption) ?rest87
 case hy87=>(intro wx hSw; (try dsimp only at hSw); go_simp; try (with_reducible rfl))
 simp only [Act.put,zA,zB,zC,zD,zE,zF]
 refine anyL_take (i:=30) (v:=?vv88) rfl (by kernel_rfl) (by kernel_rfl) (by kernel_rfl) (by kernel_rfl) (fun _ _ _ h=>h) (Or.inl ⟨by rfl,?hy88⟩) (by assumption) ?rest88
 case hy88=>(intro wx hSw; (try dsimp only at hSw); go_simp; try (with_reducible rfl))
 simp only [Act.put,zA,zB,zC,zD,zE,zF]
 refine anyL_one (i:=31) (by kernel_rfl) rfl (fun K hK=>?_)
 go_simp
 refine hK.out _ _ ((fun _=>hs1)) (fun hHeld=>?_)
 clear hK K
 refine anyL_one (i:=32) (by kernel_rfl) rfl (fun K hK=>?_)
 refine step_append_run (by rfl) (.tmp 16) (.tmp 43) _ _ (by rfl) _ _ (by rfl) (by rfl) _ _ HRUN.out ?_
 clear hHeld hs1
 refine hK.out _ _ ((fun h=>absurd h (by decide))) (fun hHeld=>?_)
 clear hK K
 refine anyL_one (i:=33) (by kernel_rfl) rfl (fun K hK=>?_)
 go_simp
 refine hK.out _ _ ((fun h=>absurd h (by decide))) (fun hHeld=>?_)
 clear hK K
 refine anyL_one (i:=34) (by kernel_rfl) rfl (fun K hK=>?_)
 go_simp
 refine hK.out _ _ ((fun h=>absurd h (by decide))) (fun hHeld=>?_)
 clear hK K
 refine anyL_one (i:=35) (by kernel_rfl) rfl (fun K hK=>?_)
 go_simp
 refine hK.out _ _ ((fun h=>absurd h (by decide))) (fun hHeld=>?_)
 clear hK K
 refine anyL_done (by kernel_rfl) ?_ _
 rw [<-HW2.out]
 have hwn:IntKind.i64.wrap ((nn:Int) + 1 - 1)=(nn:Int):=by rw [wrap_i64 (by omega) (by omega)]; omega
 have hwn2:IntKind.i64.wrap (nn:Int)=(nn:Int):=wrap_i64 (by omega) (by omega)
 clear hs0 HRUN HW2 hk1f hk1c hwl
 go_wp2_with fail
 go_loopw [10] (fun i wr=>∃ (e:Int) (D R:List (Nat × UInt8 × Nat)) (x:Nd) (N:List Nd) (E:List Eg) (T:Tmap),i = .int .i64 e/\Hid (x=⟨lk + 1,ql,qf,-1⟩)/\Hid (Lp2 N1 T1 q x N E T e D R)/\Hid (Chain E1 e R)/\Hid (∃ Y,E=E1 ++ Y)/\Hid (IxG B ib N E wr)/\Hid (Below B w wr)) (fun i _=>chLen E1 (intOf i))
 case atStart=>
  obtain ⟨x,hx,hp,hg⟩:=HX.out
  exact ⟨e0,[],T1 q,x,_,_,_,rfl,hid hx,hid hp,HCH,hid ⟨[],by simp⟩,hid hg,HBW⟩
 clear HCH HX HBW h2c hy3
 obtain ⟨e,D,R,x,N,E,T,rfl,HXX,HP,HC,HY,HG,HB⟩:=hrel
 have hNl:N.length=nn + 1:=by rw [HNN.out]; exact HP.out.ln
 have hEl:=HP.out.ix.elen
 cases R with
 | cons y R=>
  obtain ⟨rfl,nx,hE1,hnx⟩:=HC.out
  have HC0:Hid (chLen E1 ((y.1:Nat):Int)=R.length + 1):=hid (by rw [chLen_eq HC.out]; rfl)
  have HC1:Hid (chLen E1 nx=R.length):=hid (chLen_eq hnx)
  have HNX:=hid hnx
  obtain ⟨y1,d,tg⟩:=y
  simp only at hE1 HC0 ⊢
  have hE2:E[y1]? = some ⟨d,tg,nx⟩:=by
   obtain ⟨Y,rfl⟩:=HY.out
   rw [List.getElem?_append_left (List.getElem?_eq_some_iff.1 hE1).1]; exact hE1
  have hlt:=(List.getElem?_eq_some_iff.1 hE2).1
  obtain ⟨ma,mc,fa,fc,hbx⟩:=HG.out
  have hbd:IxB B ib N E ma mc fa fc wr.drew:=⟨hbx.box,hbx.lo,hbx.ns,hbx.es⟩
  have HAD:=hid (iadd_any ⟨_,_,_,_,hbd⟩ (by omega) (by omega) nn (by omega) d tg)
  obtain ⟨eb,eo,rfl,_,q0,q1,q2⟩:=eg_cells hbd.ges hE2
  have hcc:=hbd.box.c2
  have HP2:=hid (HP.out.next (h1.ix.ltr q (by omega)) hE2)
  simp only [<-HNN.out] at HP2
  have HY2:Hid (∃ Y,E ++ [(⟨d,tg,(nd N nn).edge⟩:Eg)]=E1 ++ Y):=hid (by
   obtain ⟨Y,rfl⟩:=HY.out
   exact ⟨Y ++ [⟨d,tg,(nd N nn).edge⟩],List.append_assoc _ _ _⟩)
  have hE3:(E ++ [(⟨d,tg,(nd N nn).edge⟩:Eg)])[y1]? = some ⟨d,tg,nx⟩:=by rw [List.getElem?_append_left hlt]; exact hE2
  have HE3:=hid hE3
  have hEE:(E ++ [(⟨d,tg,(nd N nn).edge⟩:Eg)]).length=E.length + 1:=by simp
  obtain ⟨m,hm⟩:∃ m,m=E.length:=⟨_,rfl⟩
  have HM:=hid hm
  rw [<-hm] at hlt hcc
  have hmi:(y1:Int) < (m:Int):=by omega
  have hmi2:(y1:Int) < (m:Int) + 1:=by omega
  have hy0:(0:Int)<=(y1:Int):=by omega
  obtain ⟨ld,hld⟩:∃ ld:Int,ld=(d.toNat:Int):=⟨_,rfl⟩
  rw [<-hld] at q0 HAD
  have HEE:=hid hEE
  have hS0:wr.drew.cell? ⟨ib,1,none⟩=some (.slice (some ⟨eb,eo,none⟩) m fc)/\wr.drew.cell? ⟨eb,eo + y1 * 3,none⟩=some (.int .u8 ld)/\wr.drew.cell? ⟨eb,eo + y1 * 3 + 1,none⟩=some (.int .i64 (tg:Int)):=⟨hcc.2,q0,q1⟩
  clear hbx hbd q0 q1 q2 hcc hE1 hE2 hE3 hEE hm hld HP HC HY HG hnx hNl hEl hlt
  go_wp2_with fail
  refine wp_region_L (S:=(fun Wx=>Wx.cell? ⟨ib,1,none⟩=some (.slice (some ⟨eb,eo,none⟩) m fc)/\Wx.cell? ⟨eb,eo + y1 * 3,none⟩=some (.int .u8 ld)/\Wx.cell? ⟨eb,eo + y1 * 3 + 1,none⟩=some (.int .i64 (tg:Int)))) [18] (by kernel_rfl) hS0 (fun hHeld=>?_)
  refine anyL_take (i:=0) (v:=?vv89) rfl (by kernel_rfl) (by kernel_rfl) (by kernel_rfl) (by kernel_rfl) (fun _ _ _ h=>h) (Or.inl ⟨by rfl,?hy89⟩) (by assumption) ?rest89
  case hy89=>(intro wx hSw; (try dsimp only at hSw); go_simp; try (with_reducible rfl))
  simp only [Act.put,zA,zC,zD,zE,zF]
  refine anyL_take (i:=1) (v:=?vv90) rfl (by kernel_rfl) (by kernel_rfl) (by kernel_rfl) (by kernel_rfl) (fun _ _ _ h=>h) (Or.inl ⟨by rfl,?hy90⟩) (by assumption) ?rest90
  case hy90=>(intro wx hSw; (try dsimp only at hSw); go_simp; try (with_reducible rfl))
  simp only [Act.put,zA,zB,zC,zD,zE,zF]
  refine anyL_take (i:=2) (v:=?vv91) rfl (by kernel_rfl) (by kernel_rfl) (by kernel_rfl) (by kernel_rfl) (fun _ _ _ h=>h) (Or.inl ⟨by rfl,?hy91⟩) (by assumption) ?rest91
  case hy91=>(intro wx hSw; (try dsimp only at hSw); go_simp; try (with_reducible rfl))
  simp only [Act.put,zA,zB,zC,zD,zE,zF]
  refine anyL_take (i:=3) (v:=?vv92) rfl (by kernel_rfl) (by kernel_rfl) (by kernel_rfl) (by kernel_rfl) (fun _ _ _ h=>h) (Or.inl ⟨by rfl,?hy92⟩) (by assumption) ?rest92
  case hy92=>(intro wx hSw; (try dsimp only at hSw); go_simp; try (with_reducible rfl))
  simp only [Act.put,zA,zB,zC,zD,zE,zF]
  refine anyL_take (i:=4) (v:=?vv93) rfl (by kernel_rfl) (by kernel_rfl) (by kernel_rfl) (by kernel_rfl) (fun _ _ _ h=>h) (Or.inl ⟨by rfl,?hy93⟩) (by assumption) ?rest93
  case hy93=>(intro wx hSw; (try dsimp only at hSw); go_simp; try (with_reducible rfl))
  simp only [Act.put,zA,zB,zC,zD,zE,zF]
  refine anyL_take (i:=5) (v:=?vv94) rfl (by kernel_rfl) (by kernel_rfl) (by kernel_rfl) (by kernel_rfl) (fun _ _ _ h=>h) (Or.inl ⟨by rfl,?hy94⟩) (by assumption) ?rest94
  case hy94=>(intro wx hSw; (try dsimp only at hSw); go_simp; try (with_reducible rfl))
  simp only [Act.put,zA,zB,zC,zD,zE,zF]
  refine anyL_take (i:=6) (v:=?vv95) rfl (by kernel_rfl) (by kernel_rfl) (by kernel_rfl) (by kernel_rfl) (fun _ _ _ h=>h) (Or.inl ⟨by rfl,?hy95⟩) (by assumption) ?rest95
  case hy95=>(intro wx hSw; (try dsimp only at hSw); go_simp; try (with_reducible rfl))
  simp only [Act.put,zA,zB,zC,zD,zE,zF]
  refine anyL_take (i:=7) (v:=?vv96) rfl (by kernel_rfl) (by kernel_rfl) (by kernel_rfl) (by kernel_rfl) (fun _ _ _ h=>h) (Or.inl ⟨by rfl,?hy96⟩) (by assumption) ?rest96
  case hy96=>(intro wx hSw; (try dsimp only at hSw); go_simp; try (with_reducible rfl))
  simp only [Act.put,zA,zB,zC,zD,zE,zF]
  refine anyL_take (i:=8) (v:=?vv97) rfl (by kernel_rfl) (by kernel_rfl) (by kernel_rfl) (by kernel_rfl) (fun _ _ _ h=>h) (Or.inl ⟨by rfl,?hy97⟩) (by assumption) ?rest97
  case hy97=>(intro wx hSw; (try dsimp only at hSw); go_simp; try (with_reducible rfl))
  simp only [Act.put,zA,zB,zC,zD,zE,zF]
  refine anyL_take (i:=9) (v:=?vv98) rfl (by kernel_rfl) (by kernel_rfl) (by kernel_rfl) (by kernel_rfl) (fun _ _ _ h=>h) (Or.inl ⟨by rfl,?hy98⟩) (by assumption) ?rest98
  case hy98=>(intro wx hSw; (try dsimp only at hSw); go_simp; try (with_reducible rfl))
  simp only [Act.put,zA,zB,zC,zD,zE,zF]
  refine anyL_take (i:=10) (v:=?vv99) rfl (by kernel_rfl) (by kernel_rfl) (by kernel_rfl) (by kernel_rfl) (fun _ _ _ h=>h) (Or.inl ⟨by rfl,?hy99⟩) (by assumption) ?rest99
  case hy99=>(intro wx hSw; (try dsimp only at hSw); go_simp; try (with_reducible rfl))
  simp only [Act.put,zA,zB,zC,zD,zE,zF]
  refine anyL_take (i:=11) (v:=?vv100) rfl (by kernel_rfl) (by kernel_rfl) (by kernel_rfl) (by kernel_rfl) (fun _ _ _ h=>h) (Or.inl ⟨by rfl,?hy100⟩) (by assumption) ?rest100
  case hy100=>(intro wx hSw; (try dsimp only at hSw); go_simp; try (with_reducible rfl))
  simp only [Act.put,zA,zB,zC,zD,zE,zF]
  refine anyL_take (i:=12) (v:=?vv101) rfl (by kernel_rfl) (by kernel_rfl) (by kernel_rfl) (by kernel_rfl) (fun _ _ _ h=>h) (Or.inl ⟨by rfl,?hy101⟩) (by assumption) ?rest101
  case hy101=>(intro wx hSw; (try dsimp only at hSw); go_simp; try (with_reducible rfl))
  simp only [Act.put,zA,zB,zC,zD,zE,zF]
  refine anyL_take (i:=13) (v:=?vv102) rfl (by kernel_rfl) (by kernel_rfl) (by kernel_rfl) (by kernel_rfl) (fun _ _ _ h=>h) (Or.inl ⟨by rfl,?hy102⟩) (by assumption) ?rest102
  case hy102=>(intro wx hSw; (try dsimp only at hSw); go_simp; try (with_reducible rfl))
  simp only [Act.put,zA,zB,zC,zD,zE,zF]
  refine anyL_take (i:=14) (v:=?vv103) rfl (by kernel_rfl) (by kernel_rfl) (by kernel_rfl) (by kernel_rfl) (fun _ _ _ h=>h) (Or.inl ⟨by rfl,?hy103⟩) (by assumption) ?rest103
  case hy103=>(intro wx hSw; (try dsimp only at hSw); go_simp; try (with_reducible rfl))
  simp only [Act.put,zA,zB,zC,zD,zE,zF]
  refine anyL_take (i:=15) (v:=?vv104) rfl (by kernel_rfl) (by kernel_rfl) (by kernel_rfl) (by kernel_rfl) (fun _ _ _ h=>h) (Or.inl ⟨by rfl,?hy104⟩) (by assumption) ?rest104
  case hy104=>(intro wx hSw; (try dsimp only at hSw); go_simp; try (with_reducible rfl))
  simp only [Act.put,zA,zB,zC,zD,zE,zF]
  refine anyL_take (i:=16) (v:=?vv105) rfl (by kernel_rfl) (by kernel_rfl) (by kernel_rfl) (by kernel_rfl) (fun _ _ _ h=>h) (Or.inl ⟨by rfl,?hy105⟩) (by assumption) ?rest105
  case hy105=>(intro wx hSw; (try dsimp only at hSw); go_simp; try (with_reducible rfl))
  simp only [Act.put,zA,zB,zC,zD,zE,zF]
  refine anyL_take (i:=17) (v:=?vv106) rfl (by kernel_rfl) (by kernel_rfl) (by kernel_rfl) (by kernel_rfl) (fun _ _ _ h=>h) (Or.inl ⟨by rfl,?hy106⟩) (by assumption) ?rest106
  case hy106=>(intro wx hSw; (try dsimp only at hSw); go_simp; try (with_reducible rfl))
  simp only [Act.put,zA,zB,zC,zD,zE,zF]
  refine anyL_one (i:=18) (by kernel_rfl) rfl (fun K hK=>?_)
  go_simp
  (with_reducible refine (HAD.out).mono ?_)
  rintro e u ⟨rfl,HG2,hB2⟩
  have HB2:Hid (Below B w u):=hid (HB.out.drew.trans hB2)
  clear hB2 hS0 hHeld HAD HB
  refine hK.out _ _ ((fun h=>absurd h (by decide))) (fun hHeld=>?_)
  clear hK K
  refine anyL_done (by kernel_rfl) ?_ _
  obtain ⟨ma,mc,fa,fc,hbx⟩:=HG2.out
  obtain ⟨eb,eo,rfl,_,q0,q1,q2⟩:=eg_cells hbx.ges HE3.out
  have hcc:=hbx.box.c2.2
  rw [HEE.out,<-HM.out] at hcc
  clear hbx q0 q1
  go_wp2_with fail
  go_roundw
  case rel=>exact ⟨nx,_,R,x,_,_,_,rfl,HXX,HP2,HNX,HY2,HG2,HB2⟩
  case measure=>
   simp only [intOf]
   rw [HC0.out,HC1.out]
   omega
 | nil=>
  obtain rfl:e = -1:=HC.out
  obtain ⟨ma,mc,fa,fc,hbx⟩:=HG.out
  obtain ⟨g,rfl,hfz,hcl,hst⟩:=hbx.setN (v:=q) (by omega)
  obtain ⟨hR1,hR2⟩:=hst { nd N q with link:=((nn:Nat):Int) } 1 (.int .i64 ((nn:Nat):Int)) (by decide) rfl
  obtain ⟨N3,hN3⟩:∃ N3,N3=N.set q { nd N q with link:=((nn:Nat):Int) }:=⟨_,rfl⟩
  rw [<-hN3] at hR1
  have HM:Hid (Mid s c N0 T0 W k q N3 T):=hid (by
   refine Mid.make (E1:=E1) (E2:=E) (E3:=E) (e:=-1) (D:=D) ha h1 hk hs hq (by rw [HLK.out]; exact hl) ?_ (by rw [<-HNN.out]; exact hN3)
   ·have:=HP.out
    rw [HXX.out,<-HLK.out,<-HQL.out,<-HQF.out] at this
    exact this)
  have HX3:Hid (Ixr N3 E T):=hid (by rw [hN3]; exact HP.out.ix.link (by omega) _)
  have HG3:Hid (IxG B ib N3 E (wr.setCell ⟨g,q * 4 + 1,none⟩ (.int .i64 ((nn:Nat):Int)))):=hid ⟨_,_,_,_,hR1⟩
  have HB3:Hid (Below B w (wr.setCell ⟨g,q * 4 + 1,none⟩ (.int .i64 ((nn:Nat):Int)))):=hid (HB.out.trans hR2)
  have hc1:=hcl 1 (by decide)
  rw [show (ndCs (nd N q))[1]? = some (.int .i64 (nd N q).link) from rfl] at hc1
  have hf1:=hfz (q * 4 + 1)
  have hcc:=hbx.box.c2.1
  rw [hNl] at hcc
  generalize (nd N q).link=l0 at hc1
  have HN3:Hid (N3.length=nn + 1):=hid (by rw [hN3,List.length_set,hNl])
  have HEL3:Hid (E.length<=1000000):=hid (by omega)
  clear hbx hfz hcl hst hR1 hR2 hN3 hNl hEl HP HC HY HG HB HXX
  have HQK:Hid ((W k).length < (W q).length):=hid (by have:=HELS.out.1; have:=HELS.out.2; have:=HLK.out; omega)
  have HP0:=hid (Lp3.start (c:=c) (T0:=T0) (n:=N0.length) (q:=q) HX3.out hk hs)
  go_wp2_with fail
  go_loopw [1] (fun i wr=>∃ (p:Int) (E':List Eg) (T':Tmap),i = .int .i64 p/\Hid (Lp3 s c N0.length T0 W k q N3 T N3 E' T' p)/\Hid (E'.length<=1000000)/\Hid (IxG B ib N3 E' wr)/\Hid (Below B w wr)) (fun i _=>lkM N0 (intOf i))
  case atStart=>exact ⟨_,E,T,rfl,HP0,HEL3,HG3,HB3⟩
  clear hc1 hf1 hcc HG3 HB3 HP0 HX3 HEL3
  obtain ⟨p,E',T',rfl,HP,HEL,HG,HB⟩:=hrel
  have HFIN:Hid ((p = -1\/∃ j:Nat,p=((j:Nat):Int)/\j < N0.length/\W j <:+ s/\(W j).length<=(W k).length/\trU T' j c ≠ some q)->∀ W',IxG B ib N3 E' W'->SplitR s c N0 W k B ib W'):=hid (fun he W' hg=>⟨N3,E',T',hg,by rw [HN3.out,HNN.out,hN1],HEL.out,HP.out.endC ha HM.out hk hs hq0 he⟩)
  have HN0:Hid (nn=N0.length + 1):=hid (by rw [HNN.out,hN1])
  have HRS:Hid (((N0.length + 1:Nat):Int)=(nn:Int)):=hid (by rw [HN0.out])
  rcases HP.out.pt with rfl | ⟨j,rfl,hj,hjs,hjl⟩
  ·have HR:=hid (HFIN.out (.inl rfl) wr HG.out)
   clear HFIN HG HP
   go_wp2_with fail
   go_ret
   rw [HRS.out]
   exact ⟨rfl,HR,HB.out⟩
  have hj3:j < N3.length:=by rw [HN3.out]; have:=HN0.out; omega
  have hjn:(j:Int) < (nn:Int) + 1:=by have:=HN0.out; omega
  have hj0:(0:Int)<=(j:Int):=by omega
  have HFD:=hid (ifind_any (HG.out.in_) HP.out.ix (by rw [HN3.out]; omega) j hj3 c)
  rw [<-HLC.out] at HFD
  cases htr:trU T' j c with
  | none=>
   rw [fndI_none htr] at HFD
   have HR:=hid (HFIN.out (.inr ⟨j,rfl,hj,hjs,hjl,by rw [htr]; simp⟩) wr HG.out)
   clear HFIN HG HP htr
   go_wp2_with fail
   (with_reducible refine (HFD.out).mono ?_)
   rintro e u ⟨rfl,rfl⟩
   go_wp2_with fail
   go_ret
   rw [HRS.out]
   exact ⟨rfl,HR,HB.out⟩
  | some u=>
   obtain ⟨i,hf1,hf2⟩:=fndI_some htr
   obtain ⟨nx,hf3⟩:=fnd_edge HP.out.ix hj3 hf2
   rw [hf1] at HFD
   obtain ⟨ma,mc,fa,fc,hbx⟩:=HG.out
   obtain ⟨eg,rfl,hfz,hcl,hst⟩:=hbx.setE hf3
   have hilt:=(List.getElem?_eq_some_iff.1 hf3).1
   have hcc:=hbx.box.c2.2
   have hc1:=hcl 1 (by decide)
   rw [show (egCs ⟨c,u,nx⟩)[1]? = some (.int .i64 (u:Int)) from rfl] at hc1
   have hfz1:=hfz (i * 3 + 1)
   by_cases huq:u=q
   ·subst huq
    obtain ⟨hR1,hR2⟩:=hst ⟨c,nn,nx⟩ 1 (.int .i64 (nn:Int)) (by decide) rfl
    have HPN:=hid (HP.out.next ha HM.out hk hq0 hj hjs hjl hf2 hf3)
    rw [<-HN0.out] at HPN
    have HMS:=hid (lkM_link ha hj hjs)
    have hne:j ≠ u:=fun e=>by subst e; have:=HQK.out; omega
    have hlk2:(nd N3 j).link=(nd N0 j).link:=HM.out.link j hj hne
    obtain ⟨xb,xo,haa,_,x0,x1,x2,x3⟩:=nd_cells hR1.gns (k:=j) hj3
    rw [hlk2] at x1
    generalize (nd N0 j).link=lj at HPN HMS x1
    have hxc:=hR1.box.c2.1
    rw [haa,HN3.out] at hxc
    have HG4:Hid (IxG B ib N3 (E'.set i ⟨c,nn,nx⟩) (wr.setCell ⟨eg,i * 3 + 1,none⟩ (.int .i64 (nn:Int)))):=hid ⟨_,_,_,_,hR1⟩
    have HB4:=hid (HB.out.trans hR2)
    have HEL4:Hid ((E'.set i ⟨c,nn,nx⟩).length<=1000000):=hid (by rw [List.length_set]; exact HEL.out)
    have huu:((u:Int) != (u:Int))=false:=by simp
    obtain ⟨m,hm⟩:∃ m,m=E'.length:=⟨_,rfl⟩
    rw [<-hm] at hilt hcc
    have hil:(i:Int) < (m:Int):=by omega
    have hi0:¬ (i:Int) < 0:=by omega
    clear hbx hfz hcl hst hR1 hR2 x0 x2 x3 hf1 hf2 hf3 htr HP HG HB hm haa hlk2
    go_wp2_with fail
    (with_reducible refine (HFD.out).mono ?_)
    rintro e z ⟨rfl,rfl⟩
    go_wp2_with fail
    go_roundw
    case rel=>exact ⟨lj,_,_,rfl,HPN,HEL4,HG4,HB4⟩
    case measure=>simpa [intOf] using HMS.out
   ·have hne:((u:Int) != (q:Int))=true:=by simp; omega
    have HR:=hid (HFIN.out (.inr ⟨j,rfl,hj,hjs,hjl,by rw [htr]; simp [huq]⟩) wr HG.out)
    obtain ⟨m,hm⟩:∃ m,m=E'.length:=⟨_,rfl⟩
    rw [<-hm] at hilt hcc
    have hil:(i:Int) < (m:Int):=by omega
    have hi0:¬ (i:Int) < 0:=by omega
    clear hbx hfz hcl hst hf1 hf2 hf3 htr HP HG hm HFIN
    go_wp2_with fail
    (with_reducible refine (HFD.out).mono ?_)
    rintro e z ⟨rfl,rfl⟩
    go_wp2_with fail
    go_ret
    rw [HRS.out]
    exact ⟨rfl,HR,HB.out⟩
def ExtR (s:List UInt8) (B ib v:Nat) (w':World):Prop:=∃ N E T W,AutC s N E T W/\IxG B ib N E w'/\v < N.length/\W v=s
theorem iextend_any {B ib:Nat} {s:List UInt8} {v:Nat} {w:World} (h:ExtR s B ib v w) (c:UInt8) (hls:s.length<=1000) :
  Calls Tryz.prog 138 #[.pointer (some ⟨ib,0,none⟩),.int .i64 (v:Int),.int .u8 (c.toNat:Int)] w fun e w'=>(∃ v':Nat,e = .returned (.int .i64 (v':Int))/\Hid (ExtR (s ++ [c]) B ib v' w'))/\Below B w w':=by
 obtain ⟨N0,E0,T0,W,ha,hg,hv,hW⟩:=h
 obtain ⟨na,nc,ea,ec,hb⟩:=hg
 have hlen0:=ha.ln
 have hlv:(nd N0 v).len=s.length:=by rw [<-hW]; exact ha.au.len v hv
 obtain ⟨na',nc',W1,HRUN,hk1,he1,hb1,hB1⟩:=hb.pushN ⟨s.length + 1,0,s.length + 1,-1⟩ (by omega)
 obtain ⟨pb,po,rfl,_,p0,p1,p2,p3⟩:=nd_cells hb.gns (k:=v) hv
 rw [hlv] at p0
 obtain ⟨sl,hsl⟩:∃ sl,sl=s.length:=⟨_,rfl⟩
 obtain ⟨sl1,hsl1⟩:∃ sl1:Nat,sl1=s.length + 1:=⟨_,rfl⟩
 obtain ⟨nn,hnn⟩:∃ nn,nn=N0.length:=⟨_,rfl⟩
 have HP0:=hid (Lp1.start (c:=c) ha hv hW)
 rw [<-hsl] at p0
 rw [<-hsl1] at HRUN hb1 HP0
 rw [<-hnn] at HRUN hk1
 have HG0:Hid (IxG B ib (N0 ++ [⟨sl1,0,sl1,-1⟩]) E0 (W1.setCell ⟨ib,0,none⟩ (.slice na' (N0.length + 1) nc'))):=hid ⟨_,_,_,_,hb1⟩
 have HB0:Hid (Below B w (W1.setCell ⟨ib,0,none⟩ (.slice na' (N0.length + 1) nc'))):=hid hB1
 rw [<-hnn] at HG0 HB0 hv
 have hbx1:(W1.setCell ⟨ib,0,none⟩ (.slice na' (nn + 1) nc')).cell? ⟨ib,0,none⟩=some (.slice na' (nn + 1) nc'):=by
  have h2:=hb1.box.c2.1
  rw [show (N0 ++ [(⟨sl1,0,sl1,-1⟩:Nd)]).length=nn + 1 by rw [hnn]; simp,<-hnn] at h2
  exact h2
 have hbx:=hb.box.c2
 rw [<-hnn] at hbx
 have hvi:(v:Int) < (nn:Int):=by omega
 have hwl:IntKind.i64.wrap ((sl:Int) + 1)=(sl1:Int):=by rw [wrap_i64 (by omega) (by omega)]; omega
 have hnb:(nn:Int)<=3000:=by omega
 have hwn:IntKind.i64.wrap ((nn:Int) + 1 - 1)=(nn:Int):=by rw [wrap_i64 (by omega) (by omega)]; omega
 have hwn2:IntKind.i64.wrap (nn:Int)=(nn:Int):=wrap_i64 (by omega) (by omega)
 have HNN:Hid (nn=N0.length):=hid hnn
 have HSL:Hid (sl1=s.length + 1):=hid hsl1
 obtain ⟨lc,hlc⟩:∃ lc:Int,lc=(c.toNat:Int):=⟨_,rfl⟩
 have HLC:=hid hlc
 rw [<-hlc]
 have hk1c:=hk1.c2.1
 have hk1f:=hk1.frozen 0
 have hc0:=hbx.1
 simp only [ndCs] at HRUN
 have hz:((0:Nat):Int)=0:=rfl
 clear hb he1 hb1 hB1 hk1 p1 p2 p3 hlv hnn hsl hsl1 hlc hbx
 go_enter Tryz.func138,Tryz.ntmps138
 go_wp2_with (at_builtin; refine Lib.wpList_append_run _ rfl _ _ _ _ rfl _ _ rfl rfl _ _ HRUN.out ?_)
 clear HRUN hc0 hk1c hk1f p0
 go_loopw [9] (fun i wr=>∃ (p:Int) (N:List Nd) (E:List Eg) (T:Tmap),i = .int .i64 p/\Hid (Lp1 s c N0 T0 W N E T p)/\Hid (IxG B ib N E wr)/\Hid (Below B w wr)) (fun i _=>lkM N0 (intOf i))
 case atStart=>exact ⟨_,_,E0,_,rfl,HP0,HG0,HB0⟩
 clear hbx1 HP0 HG0 HB0
 obtain ⟨p,N,E,T,rfl,HP,HG,HB⟩:=hrel
 have HNL:Hid (N.length=nn + 1):=hid (by rw [HNN.out]; exact HP.out.ln)
 have HEL:Hid (E.length<=1000000):=hid (by have:=HP.out.ix.elen; have:=HNL.out; omega)
 rcases HP.out.pt with rfl | ⟨k,rfl,hk,hks⟩
 ·have HR:Hid (ExtR (s ++ [c]) B ib nn wr):=hid ⟨N,E,T,_,HP.out.endA ha,HG.out,by have:=HNL.out; omega,by rw [if_pos HNN.out]⟩
  clear HP HG
  go_wp2_with fail
  go_ret
  exact ⟨⟨nn,rfl,HR⟩,HB.out⟩
 have hkn:k < N.length:=by rw [HNL.out]; have:=HNN.out; omega
 have hki:(k:Int) < (nn:Int) + 1:=by have:=HNN.out; omega
 have hk0:(0:Int)<=(k:Int):=by omega
 have hk0':¬ (k:Int) < 0:=by omega
 have HFD:=hid (ifind_any (HG.out.in_) HP.out.ix (by rw [HNL.out]; omega) k hkn c)
 rw [<-HLC.out] at HFD
 cases htr:trU T k c with
 | none=>
  rw [fndI_none htr] at HFD
  have HAD:=hid (iadd_any HG.out (by rw [HNL.out]; omega) (by have:=HEL.out; omega) k hkn c nn)
  rw [<-HLC.out] at HAD
  have HPN:=hid (HP.out.next ha hk hks htr)
  rw [<-HNN.out] at HPN
  have hold:=(HP.out.old k hk).2.1
  have HMS:Hid (lkM N0 (nd N k).link < lkM N0 (k:Int)):=hid (by rw [hold]; exact lkM_link ha hk hks)
  have hnk:nd (N.set k { nd N k with edge:=((E.length:Nat):Int) }) k = { nd N k with edge:=((E.length:Nat):Int) }:=by rw [nd_set _ hkn,if_pos rfl]
  have HNK:Hid ((nd (N.set k { nd N k with edge:=((E.length:Nat):Int) }) k).link=(nd N k).link):=hid (by rw [hnk])
  have HNS:Hid (k < (N.set k { nd N k with edge:=((E.length:Nat):Int) }).length):=hid (by rw [List.length_set]; exact hkn)
  have HNS2:Hid ((N.set k { nd N k with edge:=((E.length:Nat):Int) }).length=nn + 1):=hid (by rw [List.length_set,HNL.out])
  generalize N.set k { nd N k with edge:=((E.length:Nat):Int) } = N' at HPN HAD HNK HNS HNS2
  generalize (nd N k).link=lk at HPN HMS HNK
  clear HP HG hold hnk htr
  go_wp2_with fail
  (with_reducible refine (HFD.out).mono ?_)
  rintro e u ⟨rfl,rfl⟩
  go_wp2_with fail
  (with_reducible refine (HAD.out).mono ?_)
  rintro e u ⟨rfl,HG2,hB2⟩
  have HB2:=hid (HB.out.trans hB2)
  obtain ⟨ma,mc,fa,fc,hbx⟩:=HG2.out
  obtain ⟨xb,xo,rfl,_,x0,x1,x2,x3⟩:=nd_cells hbx.gns (k:=k) HNS.out
  have hcc:=hbx.box.c2.1
  rw [HNK.out] at x1
  rw [HNS2.out] at hcc
  clear hB2 HB hbx x0 x2 x3 HFD HAD
  go_wp2_with fail
  go_roundw
  case rel=>exact ⟨lk,_,_,_,rfl,HPN,HG2,HB2⟩
  case measure=>simpa [intOf] using HMS.out
 | some q=>
  obtain ⟨i,hf1,hf2⟩:=fndI_some htr
  have hi0:¬ (i:Int) < 0:=by omega
  rw [hf1] at HFD
  have HST:=hid (istep_any (HG.out.in_) HP.out.ix (by rw [HNL.out]; omega) k hkn c)
  unfold stepI at HST
  rw [htr,<-HLC.out] at HST
  simp only at HST
  obtain ⟨hq0,hqn,_,_,_,_⟩:=HP.out.top ha hk hks htr
  obtain ⟨ma,mc,fa,fc,hbx⟩:=HG.out
  have hbd:IxB B ib N E ma mc fa fc wr.drew:=⟨hbx.box,hbx.lo,hbx.ns,hbx.es⟩
  have hqN:q < N.length:=by rw [HNL.out]; have:=HNN.out; omega
  have hnN:N0.length < N.length:=by rw [HNL.out,HNN.out]; omega
  obtain ⟨g,rfl,hfz,hcl,hst⟩:=hbd.setN (v:=nn) (by rw [HNN.out]; exact hnN)
  obtain ⟨xb,xo,haa,_,x0,_,_,_⟩:=nd_cells hbd.gns (k:=k) hkn
  cases haa
  obtain ⟨yb,yo,haa,_,y0,_,_,_⟩:=nd_cells hbd.gns (k:=q) hqN
  cases haa
  rw [Nat.zero_add] at x0 y0
  have hcc:=hbd.box.c2.1
  rw [HNL.out] at hcc
  have hqi:(q:Int) < (nn:Int) + 1:=by have:=HNN.out; omega
  have hlk:(nd N k).len<=3000:=by
   have h1:=(HP.out.old k hk).1
   have h2:(nd N0 k).len=(W k).length:=ha.au.len k hk
   have h3:=hks.length_le
   omega
  have hlq:(nd N q).len<=3000:=by
   have h1:=(HP.out.old q hqn).1
   have h2:(nd N0 q).len=(W q).length:=ha.au.len q hqn
   have h3:=(ha.au.lm q hqn).fac.len
   omega
  obtain ⟨lk,hlkk⟩:∃ lk,lk=(nd N k).len:=⟨_,rfl⟩
  obtain ⟨lk1,hlk1⟩:∃ lk1:Nat,lk1=(nd N k).len + 1:=⟨_,rfl⟩
  obtain ⟨lq,hlqq⟩:∃ lq,lq=(nd N q).len:=⟨_,rfl⟩
  rw [<-hlkk] at x0
  rw [<-hlqq] at y0
  have hwk:IntKind.i64.wrap ((lk:Int) + 1)=(lk1:Int):=by rw [wrap_i64 (by omega) (by omega)]; omega
  have hnni:(nn:Int) < (nn:Int) + 1:=by omega
  have HBD:Hid (Below B w wr.drew):=hid HB.out.drew
  by_cases hl:(nd N q).len<=(nd N k).len + 1
  ·have hgt:¬ (lk1:Int) < (lq:Int):=by omega
   have hA2:=HP.out.endB ha hk hks htr hl
   rw [<-HNN.out] at hA2
   obtain ⟨hR1,hR2⟩:=hst { nd N nn with link:=((q:Nat):Int) } 1 (.int .i64 ((q:Nat):Int)) (by decide) rfl
   have HR:Hid (ExtR (s ++ [c]) B ib nn (wr.drew.setCell ⟨g,nn * 4 + 1,none⟩ (.int .i64 ((q:Nat):Int)))):=hid ⟨_,_,_,_,hA2,⟨_,_,_,_,hR1⟩,by rw [List.length_set,HNL.out]; omega,by rw [if_pos rfl]⟩
   have HB3:=hid (HBD.out.trans hR2)
   have hc1:=hcl 1 (by decide)
   rw [show (ndCs (nd N nn))[1]? = some (.int .i64 (nd N nn).link) from rfl] at hc1
   have hf1':=hfz (nn * 4 + 1)
   generalize (nd N nn).link=l0 at hc1
   clear hbx hbd hfz hcl hst hR1 hR2 hA2 htr hf1 hf2 hlkk hlk1 hlqq HP HG HBD hl hlk hlq
   go_wp2_with fail
   (with_reducible refine (HFD.out).mono ?_)
   rintro e u ⟨rfl,rfl⟩
   go_wp2_with fail
   (with_reducible refine (HST.out).mono ?_)
   rintro e u ⟨rfl,rfl⟩
   go_wp2_with fail
   go_region
   all_goals
    go_wp2_with fail
    go_ret
    exact ⟨⟨nn,rfl,HR⟩,HB3.out⟩
  ·have hgt:(lk1:Int) < (lq:Int):=by omega
   have hP2:=HP.out
   have HSP:=hid (isplit_any ha HP.out hk hks htr hl hls (⟨_,_,_,_,hbd⟩:IxG B ib N E wr.drew))
   rw [<-HLC.out] at HSP
   clear hbx hbd hfz hcl hst htr hf1 hf2 hlkk hlk1 hlqq HP HG hl hlk hlq hP2
   go_wp2_with fail
   (with_reducible refine (HFD.out).mono ?_)
   rintro e u ⟨rfl,rfl⟩
   go_wp2_with fail
   (with_reducible refine (HST.out).mono ?_)
   rintro e u ⟨rfl,rfl⟩
   go_wp2_with fail
   go_region
   all_goals
    go_wp2_with fail
    (with_reducible refine (HSP.out).mono ?_)
    rintro e u ⟨rfl,HS,hB2⟩
    obtain ⟨N',E',T',hG',hN',_,hA'⟩:=HS.out
    rw [<-HNN.out] at hA' hN'
    obtain ⟨ma,mc,fa,fc,hbx⟩:=hG'
    obtain ⟨g,rfl,hfz,hcl,hst⟩:=hbx.setN (v:=nn) (by omega)
    obtain ⟨hR1,hR2⟩:=hst { nd N' nn with link:=((nn + 1:Nat):Int) } 1 (.int .i64 ((nn + 1:Nat):Int)) (by decide) rfl
    have HR:Hid (ExtR (s ++ [c]) B ib nn (u.setCell ⟨g,nn * 4 + 1,none⟩ (.int .i64 ((nn + 1:Nat):Int)))):=hid ⟨_,_,_,_,hA',⟨_,_,_,_,hR1⟩,by rw [List.length_set]; omega,by rw [if_pos rfl]⟩
    have HB3:=hid ((HBD.out.trans hB2).trans hR2)
    have hc1:=hcl 1 (by decide)
    rw [show (ndCs (nd N' nn))[1]? = some (.int .i64 (nd N' nn).link) from rfl] at hc1
    have hf1':=hfz (nn * 4 + 1)
    generalize (nd N' nn).link=l0 at hc1
    have hcc2:=hbx.box.c2.1
    rw [hN'] at hcc2
    have hnn2:(nn:Int) < (nn:Int) + 2:=by omega
    rw [<-HNN.out]
    clear hbx hfz hcl hst hR1 hR2 hA' HBD hB2 HS hN' hcc x0 y0
    go_wp2_with fail
    go_ret
    exact ⟨⟨nn,rfl,HR⟩,HB3.out⟩
theorem own_lit {W:World} {B g:Nat} {e:TypeId} {z n:Nat} {cs:Array Value} (h:BK g cs e W) (hB:B<=g) (hn:cs.size=n * z) (hm:n<=1000):W.ownsRow B e z (.slice (some ⟨g,0,none⟩) n n) n cs.toList:=
 ⟨by rw [Array.length_toList]; exact hn,.inr ⟨g,n,cs,rfl,hB,h,Nat.le_refl _,by unfold maxLen; omega,hn,by rw [<-hn,<-Array.length_toList,List.take_length]⟩⟩
def IxOf (s:List UInt8) (B ib:Nat) (W:World):Prop:=∃ N E T V,AutC s N E T V/\IxIn B ib N E W
theorem IxOf.below {s:List UInt8} {B B' ib:Nat} {W W':World} (h:IxOf s B ib W) (hb:Below B' W W') (hB:B<=B'):IxOf s B ib W':=by
 obtain ⟨N,E,T,V,h1,h2⟩:=h
 exact ⟨N,E,T,V,h1,h2.below hb hB⟩
theorem IxOf.mono {s:List UInt8} {B B' ib:Nat} {W:World} (h:IxOf s B ib W) (hB:B<=B'):IxOf s B' ib W:=by
 obtain ⟨N,E,T,V,h1,h2⟩:=h
 exact ⟨N,E,T,V,h1,h2.mono hB⟩
def IxOwn (s:List UInt8) (B ib:Nat) (W:World):Prop:=∃ N E T V,AutC s N E T V/\IxG B ib N E W
theorem IxOwn.of {s:List UInt8} {B ib:Nat} {W:World} (h:IxOwn s B ib W):IxOf s W.heap.size ib W:=by
 obtain ⟨N,E,T,V,h1,h2⟩:=h
 exact ⟨N,E,T,V,h1,h2.in_⟩
theorem IxOwn.grown {s:List UInt8} {B ib b:Nat} {W W':World} (h:IxOwn s B ib W) (hg:W.grownBy W' (some b)) (hb:b < B):IxOwn s B ib W':=by
 obtain ⟨N,E,T,V,h1,na,nc,ea,ec,h2⟩:=h
 exact ⟨N,E,T,V,h1,na,nc,ea,ec,h2.box.grow1 hg (by have:=h2.lo; omega),h2.lo,own_kept h2.ns hg hb,own_kept h2.es hg hb⟩
theorem IxOwn.below {s:List UInt8} {B ib:Nat} {W W':World} (h:IxOwn s B ib W) (hb:Below W.heap.size W W'):IxOwn s B ib W':=by
 obtain ⟨N,E,T,V,h1,na,nc,ea,ec,h2⟩:=h
 exact ⟨N,E,T,V,h1,na,nc,ea,ec,h2.below hb⟩
theorem ExtR.own {s:List UInt8} {B ib v:Nat} {W:World} (h:ExtR s B ib v W):IxOwn s B ib W:=by
 obtain ⟨N,E,T,V,h1,h2,_⟩:=h
 exact ⟨N,E,T,V,h1,h2⟩
theorem ExtR.of {s:List UInt8} {B ib v:Nat} {W:World} (h:ExtR s B ib v W):IxOf s W.heap.size ib W:=by
 obtain ⟨N,E,T,V,h1,h2,_⟩:=h
 exact ⟨N,E,T,V,h1,h2.in_⟩
theorem newIndex_any (s:List UInt8) (w:World) (hl:s.length<=1000):Calls Tryz.prog 111 #[.string ⟨s.toArray⟩] w fun e w'=>∃ ib,e = .returned (.pointer (some ⟨ib,0,none⟩))/\Hid (IxOwn s w.heap.size ib w')/\Below w.heap.size w w'/\w.heap.size<=ib:=by
 obtain ⟨w1,hw1⟩:∃ w1,w1=(w.alloc (.cells #[.int .i64 0,.int .i64 (-1),.int .i64 0,.int .i64 (-1)] 184)).alloc (.cells #[.slice (some ⟨w.heap.size,0,none⟩) 1 1,.slice none 0 0] 188):=⟨_,rfl⟩
 have h0:BK w.heap.size #[.int .i64 0,.int .i64 (-1),.int .i64 0,.int .i64 (-1)] 184 w1:=by rw [hw1]; exact (BK.new _ _ _).alloc _
 have h1:BK (w.heap.size + 1) #[.slice (some ⟨w.heap.size,0,none⟩) 1 1,.slice none 0 0] 188 w1:=by rw [hw1]; exact BK.new2 _ _ _ _
 have HB0:Hid (Below w.heap.size w w1):=hid (by rw [hw1]; exact ((Below.refl _ _).alloc (Nat.le_refl _) _).alloc (by simp) _)
 have HX0:Hid (ExtR ([]:List UInt8) w.heap.size (w.heap.size + 1) 0 w1):=hid ⟨_,_,_,_,AutC.start,⟨some ⟨w.heap.size,0,none⟩,1,none,0,⟨h1,by omega,own_lit (n:=1) h0 (Nat.le_refl _) rfl (by omega),World.ownsRow_nil _ _ _ _⟩⟩,by simp,rfl⟩
 obtain ⟨ib,hib⟩:∃ ib,ib=w.heap.size + 1:=⟨_,rfl⟩
 rw [<-hib] at HX0
 have HIB:Hid (ib=w.heap.size + 1):=hid hib
 obtain ⟨n,hn⟩:∃ n,n=s.length:=⟨_,rfl⟩
 have HN:Hid (n=s.length):=hid hn
 have hss:(⟨s.toArray⟩:ByteArray).size=n:=by rw [ba_len,hn]
 have hnb:(n:Int)<=1000:=by omega
 have HW:=hid hw1
 have HID:Hid (∀ k,k < n->∃ (d:Int) (c:UInt8),d=(c.toNat:Int)/\s.take (k + 1)=s.take k ++ [c]/\∀ w,(Instr.index 9 (.string ⟨s.toArray⟩) (.int .i64 k)).run Tryz.prog w = .ok (.int .u8 d) w):=hid (fun k hk=>by
  obtain ⟨d,_,_,h3,h4⟩:=idx ⟨s.toArray⟩ k (by rw [ba_len,<-hn]; exact hk)
  have hks:k < s.length:=by omega
  refine ⟨d,s[k],?_,List.take_succ_eq_append_getElem hks,h4⟩
  rw [h3]
  simp [List.getD,hks])
 clear hw1 h0 h1 hib hn
 go_enter Tryz.func111,Tryz.ntmps111
 go_wp2_with fail
 rw [<-HIB.out,<-HW.out]
 clear HW
 go_loopw [4,12] (fun l i wr=>∃ (k v:Nat),k<=n/\l = .int .i64 (v:Int)/\i = .int .i64 (k:Int)/\Hid (ExtR (s.take k) w.heap.size ib v wr)/\Hid (Below w.heap.size w wr)) (fun _ i _=>n - (intOf i).toNat)
 case atStart=>exact ⟨0,0,by omega,rfl,rfl,HX0,HB0⟩
 clear HX0 HB0
 obtain ⟨k,v,hk,rfl,rfl,HX,HB⟩:=hrel
 by_cases hlt:k < n
 ·have hkn:(k:Int) < (n:Int):=by omega
  obtain ⟨d,c,hd,htk,hix⟩:=HID.out k hlt
  have HE:=hid (iextend_any HX.out c (by rw [List.length_take]; have:=HN.out; omega))
  rw [<-hd,<-htk] at HE
  clear hd htk
  go_wp2_with fail
  (with_reducible refine (HE.out).mono ?_)
  rintro e u ⟨⟨v',rfl,HX2⟩,hb⟩
  have HB2:=hid (HB.out.trans hb)
  clear hb HE HX HB
  go_wp2_with fail
  go_roundw
  case rel=>exact ⟨k + 1,v',by omega,rfl,by go_num,HX2,HB2⟩
  case measure=>simp [intOf] <;> omega
 ·obtain rfl:k=n:=by omega
  have hkn:¬ (k:Int) < (k:Int):=by omega
  have HR:Hid (IxOwn s w.heap.size ib wr):=hid (by
   have:=HX.out.own
   rw [HN.out,List.take_length] at this
   exact this)
  clear HX HID
  go_wp2_with fail
  go_ret
  exact ⟨ib,rfl,HR,HB.out,by have:=HIB.out; omega⟩
theorem best_eq {a y:List UInt8} {n j:Nat} (hn:n<=y.length) (h1:Oc a (y.take n) j) (h2:∀ i,Oc a (y.take n) i->j<=i) (h3:n=y.length\/¬ Fac a (y.take (n + 1))):bestM a y=(j - n,n)/\n<=j:=by
 obtain ⟨g1,g2⟩:=best_law hn h1 h2 h3
 by_cases h:0 < n
 ·obtain ⟨g3,g4⟩:=g2 h
  exact ⟨Prod.ext g3 g1,g4⟩
 ·obtain rfl:n=0:=by omega
  have h0:j=0:=by have:=h2 0 ⟨Nat.zero_le _,by simp⟩; omega
  obtain ⟨k1,k2,k3⟩:=bestF_law a y a.length
  exact ⟨Prod.ext (by rw [h0]; exact k2 g1) g1,Nat.zero_le _⟩
structure LoSt (a y:List UInt8) (N:List Nd) (V:Nat->List UInt8) (k v:Nat):Prop where
 le:k<=y.length
 lt:v < N.length
 at_:AtW a V (y.take k) v
theorem longest_any {a b:List UInt8} {ib bb xb:Nat} {w:World} (hx:IxOf a w.heap.size ib w) (hbb:w.cell? ⟨bb,0,none⟩=some (.string ⟨b.toArray⟩)) (hxb:w.cell? ⟨xb,0,none⟩=some (.pointer (some ⟨ib,0,none⟩))) (ha:a.length<=1000) (hbl:(b.length:Int)<=1000000) (at_:Nat) (hat:at_<=b.length) :
  Calls Tryz.prog 115 #[.int .i64 (at_:Int),.pointer (some ⟨bb,0,none⟩),.pointer (some ⟨xb,0,none⟩)] w fun e w'=>e = .returned (.tuple #[.int .i64 ((bestM a (b.drop at_)).1:Int),.int .i64 ((bestM a (b.drop at_)).2:Int)])/\Below w.heap.size w w':=by
 obtain ⟨N,E,T,V,hau,hin⟩:=hx
 have hNl:=hau.ln
 obtain ⟨n,hn⟩:∃ n,n=b.length:=⟨_,rfl⟩
 have HN:Hid (n=b.length):=hid hn
 have hss:(⟨b.toArray⟩:ByteArray).size=n:=by rw [ba_len,hn]
 rw [<-hn] at hat hbl
 have HID:Hid (∀ k,at_ + k < n->∃ (d:Int) (c:UInt8),d=(c.toNat:Int)/\(b.drop at_).take (k + 1)=(b.drop at_).take k ++ [c]/\∀ w,(Instr.index 9 (.string ⟨b.toArray⟩) (.int .i64 ((at_ + k:Nat):Int))).run Tryz.prog w = .ok (.int .u8 d) w):=hid (fun k hk=>by
  obtain ⟨d,_,_,h3,h4⟩:=idx ⟨b.toArray⟩ (at_ + k) (by rw [ba_len,<-hn]; exact hk)
  have hks:k < (b.drop at_).length:=by rw [List.length_drop,<-hn]; omega
  refine ⟨d,(b.drop at_)[k],?_,List.take_succ_eq_append_getElem hks,h4⟩
  rw [h3,List.getElem_drop]
  have:at_ + k < b.length:=by omega
  simp [List.getD,this])
 obtain ⟨y,hy⟩:∃ y,y=b.drop at_:=⟨_,rfl⟩
 have hyl:y.length=n - at_:=by rw [hy,List.length_drop,hn]
 rw [<-hy] at HID ⊢
 have HYL:=hid hyl
 have HL0:Hid (LoSt a y N V 0 0):=hid ⟨Nat.zero_le _,hau.au.pos,hau.at0⟩
 have HIN:=hid hin
 have HC:Hid (∀ W,Below w.heap.size w W->W.cell? ⟨bb,0,none⟩=some (.string ⟨b.toArray⟩)/\W.cell? ⟨xb,0,none⟩=some (.pointer (some ⟨ib,0,none⟩))):=hid (fun W hb=>⟨(hb.cell (World.block_lt_of_cell? _ _ hbb)).trans hbb,(hb.cell (World.block_lt_of_cell? _ _ hxb)).trans hxb⟩)
 have HB0:=hid (Below.refl w.heap.size w)
 have ha0:(0:Int)<=(at_:Int):=by omega
 clear hn hy hyl hin hbb hxb
 go_enter Tryz.func115,Tryz.ntmps115
 go_wp2_with fail
 go_loopw [6,7] (fun vv l wr=>∃ (k v:Nat),vv = .int .i64 (v:Int)/\l = .int .i64 (k:Int)/\Hid (LoSt a y N V k v)/\Hid (Below w.heap.size w wr)) (fun _ l _=>n - (intOf l).toNat)
 case atStart=>exact ⟨0,0,rfl,rfl,HL0,HB0⟩
 clear HL0 HB0
 obtain ⟨k,v,rfl,rfl,HL,HB⟩:=hrel
 have hkn:at_ + k<=n:=by have:=HL.out.le; have:=HYL.out; omega
 obtain ⟨p,hp⟩:∃ p,p=at_ + k:=⟨_,rfl⟩
 have hwp:IntKind.i64.wrap ((at_:Int) + (k:Int))=(p:Int):=by rw [wrap_i64 (by omega) (by omega)]; omega
 obtain ⟨hcb,hcx⟩:=HC.out wr HB.out
 have HDONE:Hid ((k=y.length\/¬ Fac a (y.take (k + 1)))->bestM a y=((nd N v).fin - k,k)/\k<=(nd N v).fin/\(nd N v).fin<=1000):=hid (fun h3=>by
  obtain ⟨g1,g2⟩:=hau.fin HL.out.lt HL.out.at_
  obtain ⟨g3,g4⟩:=best_eq HL.out.le g1 g2 h3
  exact ⟨g3,g4,by have:=g1.1; omega⟩)
 have HVL:Hid (v < N.length):=hid HL.out.lt
 have hwk:IntKind.i64.wrap ((k:Int) + 1)=(k:Int) + 1:=wrap_i64 (by omega) (by omega)
 by_cases hlt:p < n
 ·have hpn:(p:Int) < (n:Int):=by omega
  have hkn3:(k:Int) < (n:Int):=by omega
  obtain ⟨d,c,hd,htk,hix⟩:=HID.out k (by omega)
  rw [<-hp] at hix
  have hbd:Below w.heap.size w wr.drew:=HB.out.drew
  have HST:=hid (istep_any (HIN.out.below hbd (Nat.le_refl _)) hau.ix (by omega) v HL.out.lt c)
  unfold stepI at HST
  rw [<-hd] at HST
  have hS0:=HC.out _ hbd
  cases htr:trU T v c with
  | none=>
   rw [htr] at HST
   simp only at HST
   obtain ⟨e1,e2,e3⟩:=HDONE.out (.inr (by rw [htk]; exact hau.atN HL.out.lt HL.out.at_ htr))
   obtain ⟨⟨na,nc,ea,ec,hbx,hgn,_⟩,_⟩:=HIN.out.below hbd (Nat.le_refl _)
   obtain ⟨xb',xo,rfl,_,_,_,x2,_⟩:=nd_cells hgn (k:=v) HL.out.lt
   have hcc:=hbx.c2.1
   obtain ⟨j,hj⟩:∃ j,j=(nd N v).fin:=⟨_,rfl⟩
   rw [<-hj] at x2 e1 e2 e3
   obtain ⟨nn,hnn⟩:∃ nn,nn=N.length:=⟨_,rfl⟩
   rw [<-hnn] at hcc
   have hvi:(v:Int) < (nn:Int):=by have:=HL.out.lt; omega
   have hwj:IntKind.i64.wrap ((j:Int) - (k:Int))=((j - k:Nat):Int):=by rw [wrap_i64 (by omega) (by omega)]; omega
   obtain ⟨q,hq⟩:∃ q,q=j - k:=⟨_,rfl⟩
   rw [<-hq] at hwj e1
   have HE:=hid e1
   have HBD:=hid hbd
   clear hbx hgn hd htk htr HDONE HL HB hj hnn hq hp e1 e2 e3 hbd HID
   go_wp2_with fail
   refine wp_region_held_drew (S:=(fun W=>W.cell? ⟨bb,0,none⟩=some (.string ⟨b.toArray⟩)/\W.cell? ⟨xb,0,none⟩=some (.pointer (some ⟨ib,0,none⟩)))) (by kernel_rfl) hS0 (fun hHeld=>?_)
   refine wpAnyH_take (i:=0) (v:=?vv107) rfl (by kernel_rfl) (by kernel_rfl) (by kernel_rfl) (fun _ _ _ h=>h) (Or.inl ⟨by rfl,?hy107⟩) (by assumption) ?rest107
   case hy107=>(intro wx hSw; (try dsimp only at hSw); go_simp; try (with_reducible rfl))
   simp only [Act.put,zA,zC,zD,zE,zF]
   refine wpAnyH_take (i:=1) (v:=?vv108) rfl (by kernel_rfl) (by kernel_rfl) (by kernel_rfl) (fun _ _ _ h=>h) (Or.inl ⟨by rfl,?hy108⟩) (by assumption) ?rest108
   case hy108=>(intro wx hSw; (try dsimp only at hSw); go_simp; try (with_reducible rfl))
   simp only [Act.put,zA,zB,zC,zD,zE,zF]
   refine wpAnyH_take (i:=2) (v:=?vv109) rfl (by kernel_rfl) (by kernel_rfl) (by kernel_rfl) (fun _ _ _ h=>h) (Or.inl ⟨by rfl,?hy109⟩) (by assumption) ?rest109
   case hy109=>(intro wx hSw; (try dsimp only at hSw); go_simp; try (with_reducible rfl))
   simp only [Act.put,zA,zB,zC,zD,zE,zF]
   refine wpAnyH_take (i:=3) (v:=?vv110) rfl (by kernel_rfl) (by kernel_rfl) (by kernel_rfl) (fun _ _ _ h=>h) (Or.inl ⟨by rfl,?hy110⟩) (by assumption) ?rest110
   case hy110=>(intro wx hSw; (try dsimp only at hSw); go_simp; try (with_reducible rfl))
   simp only [Act.put,zA,zB,zC,zD,zE,zF]
   refine wpAnyH_take (i:=4) (v:=?vv111) rfl (by kernel_rfl) (by kernel_rfl) (by kernel_rfl) (fun _ _ _ h=>h) (Or.inl ⟨by rfl,?hy111⟩) (by assumption) ?rest111
   case hy111=>(intro wx hSw; (try dsimp only at hSw); go_simp; try (with_reducible rfl))
   simp only [Act.put,zA,zB,zC,zD,zE,zF]
   refine wpAnyH_take (i:=5) (v:=?vv112) rfl (by kernel_rfl) (by kernel_rfl) (by kernel_rfl) (fun _ _ _ h=>h) (Or.inl ⟨by rfl,?hy112⟩) (by assumption) ?rest112
   case hy112=>(intro wx hSw; (try dsimp only at hSw); go_simp; try (with_reducible rfl))
   simp only [Act.put,zA,zB,zC,zD,zE,zF]
   refine wpAnyH_take (i:=6) (v:=?vv113) rfl (by kernel_rfl) (by kernel_rfl) (by kernel_rfl) (fun _ _ _ h=>h) (Or.inl ⟨by rfl,?hy113⟩) (by assumption) ?rest113
   case hy113=>(intro wx hSw; (try dsimp only at hSw); go_simp; try (with_reducible rfl))
   simp only [Act.put,zA,zB,zC,zD,zE,zF]
   refine wpAnyH_ready (rs:=[7]) (by kernel_rfl) (by simp) ?_
   refine AllReadyH.cons rfl (fun K hK=>?_) AllReadyH.nil
   go_simp
   (with_reducible refine (HST.out).mono ?_)
   rintro e uz ⟨rfl,rfl⟩
   refine hK.out _ _ (hS0) (fun hHeld=>?_)
   clear hK K
   refine wpAnyH_take (i:=8) (v:=?vv114) rfl (by kernel_rfl) (by kernel_rfl) (by kernel_rfl) (fun _ _ _ h=>h) (Or.inl ⟨by rfl,?hy114⟩) (by assumption) ?rest114
   case hy114=>(intro wx hSw; (try dsimp only at hSw); go_simp; try (with_reducible rfl))
   simp only [Act.put,zA,zB,zC,zD,zE,zF]
   refine wpAnyH_done (by kernel_rfl) ?_ _
   go_wp2_with fail
   go_ret2
   exact ⟨by rw [HE.out]; first | done | rfl,HBD.out⟩
  | some u=>
   rw [htr] at HST
   simp only at HST
   obtain ⟨g1,g2⟩:=hau.atS HL.out.lt HL.out.at_ htr
   have HL2:Hid (LoSt a y N V (k + 1) u):=hid ⟨by rw [HYL.out]; omega,g1,by rw [htk]; exact g2⟩
   have hu0:¬ (u:Int) < 0:=by omega
   have HBD:=hid hbd
   clear hd htk htr HDONE HL HB hp hbd HID g1 g2
   go_wp2_with fail
   refine wp_region_held_drew (S:=(fun W=>W.cell? ⟨bb,0,none⟩=some (.string ⟨b.toArray⟩)/\W.cell? ⟨xb,0,none⟩=some (.pointer (some ⟨ib,0,none⟩)))) (by kernel_rfl) hS0 (fun hHeld=>?_)
   refine wpAnyH_take (i:=0) (v:=?vv115) rfl (by kernel_rfl) (by kernel_rfl) (by kernel_rfl) (fun _ _ _ h=>h) (Or.inl ⟨by rfl,?hy115⟩) (by assumption) ?rest115
   case hy115=>(intro wx hSw; (try dsimp only at hSw); go_simp; try (with_reducible rfl))
   simp only [Act.put,zA,zC,zD,zE,zF]
   refine wpAnyH_take (i:=1) (v:=?vv116) rfl (by kernel_rfl) (by kernel_rfl) (by kernel_rfl) (fun _ _ _ h=>h) (Or.inl ⟨by rfl,?hy116⟩) (by assumption) ?rest116
   case hy116=>(intro wx hSw; (try dsimp only at hSw); go_simp; try (with_reducible rfl))
   simp only [Act.put,zA,zB,zC,zD,zE,zF]
   refine wpAnyH_take (i:=2) (v:=?vv117) rfl (by kernel_rfl) (by kernel_rfl) (by kernel_rfl) (fun _ _ _ h=>h) (Or.inl ⟨by rfl,?hy117⟩) (by assumption) ?rest117
   case hy117=>(intro wx hSw; (try dsimp only at hSw); go_simp; try (with_reducible rfl))
   simp only [Act.put,zA,zB,zC,zD,zE,zF]
   refine wpAnyH_take (i:=3) (v:=?vv118) rfl (by kernel_rfl) (by kernel_rfl) (by kernel_rfl) (fun _ _ _ h=>h) (Or.inl ⟨by rfl,?hy118⟩) (by assumption) ?rest118
   case hy118=>(intro wx hSw; (try dsimp only at hSw); go_simp; try (with_reducible rfl))
   simp only [Act.put,zA,zB,zC,zD,zE,zF]
   refine wpAnyH_take (i:=4) (v:=?vv119) rfl (by kernel_rfl) (by kernel_rfl) (by kernel_rfl) (fun _ _ _ h=>h) (Or.inl ⟨by rfl,?hy119⟩) (by assumption) ?rest119
   case hy119=>(intro wx hSw; (try dsimp only at hSw); go_simp; try (with_reducible rfl))
   simp only [Act.put,zA,zB,zC,zD,zE,zF]
   refine wpAnyH_take (i:=5) (v:=?vv120) rfl (by kernel_rfl) (by kernel_rfl) (by kernel_rfl) (fun _ _ _ h=>h) (Or.inl ⟨by rfl,?hy120⟩) (by assumption) ?rest120
   case hy120=>(intro wx hSw; (try dsimp only at hSw); go_simp; try (with_reducible rfl))
   simp only [Act.put,zA,zB,zC,zD,zE,zF]
   refine wpAnyH_take (i:=6) (v:=?vv121) rfl (by kernel_rfl) (by kernel_rfl) (by kernel_rfl) (fun _ _ _ h=>h) (Or.inl ⟨by rfl,?hy121⟩) (by assumption) ?rest121
   case hy121=>(intro wx hSw; (try dsimp only at hSw); go_simp; try (with_reducible rfl))
   simp only [Act.put,zA,zB,zC,zD,zE,zF]
   refine wpAnyH_ready (rs:=[7]) (by kernel_rfl) (by simp) ?_
   refine AllReadyH.cons rfl (fun K hK=>?_) AllReadyH.nil
   go_simp
   (with_reducible refine (HST.out).mono ?_)
   rintro e uz ⟨rfl,rfl⟩
   refine hK.out _ _ (hS0) (fun hHeld=>?_)
   clear hK K
   refine wpAnyH_take (i:=8) (v:=?vv122) rfl (by kernel_rfl) (by kernel_rfl) (by kernel_rfl) (fun _ _ _ h=>h) (Or.inl ⟨by rfl,?hy122⟩) (by assumption) ?rest122
   case hy122=>(intro wx hSw; (try dsimp only at hSw); go_simp; try (with_reducible rfl))
   simp only [Act.put,zA,zB,zC,zD,zE,zF]
   refine wpAnyH_done (by kernel_rfl) ?_ _
   go_wp2_with fail
   go_roundw
   case rel=>exact ⟨k + 1,u,rfl,by go_num,HL2,HBD⟩
   case measure=>simp only [intOf]; omega
 ·obtain rfl:p=n:=by omega
  have hpn:¬ (p:Int) < (p:Int):=by omega
  obtain ⟨e1,e2,e3⟩:=HDONE.out (.inl (by rw [HYL.out]; omega))
  obtain ⟨⟨na,nc,ea,ec,hbx,hgn,_⟩,_⟩:=HIN.out.below HB.out (Nat.le_refl _)
  obtain ⟨xb',xo,rfl,_,_,_,x2,_⟩:=nd_cells hgn (k:=v) HL.out.lt
  have hcc:=hbx.c2.1
  obtain ⟨j,hj⟩:∃ j,j=(nd N v).fin:=⟨_,rfl⟩
  rw [<-hj] at x2 e1 e2 e3
  obtain ⟨nn,hnn⟩:∃ nn,nn=N.length:=⟨_,rfl⟩
  rw [<-hnn] at hcc
  have hvi:(v:Int) < (nn:Int):=by have:=HL.out.lt; omega
  have hwj:IntKind.i64.wrap ((j:Int) - (k:Int))=((j - k:Nat):Int):=by rw [wrap_i64 (by omega) (by omega)]; omega
  obtain ⟨q,hq⟩:∃ q,q=j - k:=⟨_,rfl⟩
  rw [<-hq] at hwj e1
  have HE:=hid e1
  clear hbx hgn HDONE HL hj hnn hq e1 e2 e3 HID hp
  go_wp2_with fail
  go_ret2
  exact ⟨by rw [HE.out]; first | done | rfl,HB.out⟩
section
attribute [local go_sem] Oper.semAt_some
def stepsGo (a b:List UInt8):Nat->Nat->List Dop
 | 0,_=>[]
 | f + 1,k=>if k < b.length then nextO a b k :: stepsGo a b f (k + sizeO (nextO a b k)) else []
theorem stepsGo_end {a b:List UInt8} {f k:Nat} (h:b.length<=k):stepsGo a b f k=[]:=by
 cases f with
 | zero=>rfl
 | succ f=>rw [stepsGo,if_neg (by omega)]
theorem stepsGo_fuel {a b:List UInt8}:∀ (f g k:Nat),b.length<=k + f->b.length<=k + g->stepsGo a b f k=stepsGo a b g k
 | 0,g,k,h1,h2=>by rw [stepsGo_end (by omega),stepsGo_end (by omega)]
 | f + 1,0,k,h1,h2=>by rw [stepsGo_end (by omega),stepsGo_end (by omega)]
 | f + 1,g + 1,k,h1,h2=>by
  rw [stepsGo,stepsGo]
  by_cases e:k < b.length
  ·rw [if_pos e,if_pos e]
   have:=(nextO_size (a:=a) e).1
   rw [stepsGo_fuel f g _ (by omega) (by omega)]
  ·rw [if_neg e,if_neg e]
def stepsS (a b:List UInt8):List Dop:=stepsGo a b b.length 0
theorem diffGo_steps {a b:List UInt8}:∀ (f k:Nat) (l:List Dop),diffGo a b f k l=(stepsGo a b f k).foldl addO l
 | 0,k,l=>rfl
 | f + 1,k,l=>by
  rw [diffGo,stepsGo]
  by_cases e:k < b.length
  ·rw [if_pos e,if_pos e,List.foldl_cons,diffGo_steps f]
  ·rw [if_neg e,if_neg e]; rfl
theorem diffS_steps (a b:List UInt8):diffS a b=(stepsS a b).foldl addO []:=diffGo_steps _ _ _
structure StSt (a b:List UInt8) (pre:List Dop) (k:Nat):Prop where
 le:k<=b.length
 eq:pre ++ stepsGo a b (b.length - k) k=stepsS a b
theorem StSt.start (a b:List UInt8):StSt a b [] 0:=⟨Nat.zero_le _,rfl⟩
theorem StSt.next {a b:List UInt8} {pre:List Dop} {k:Nat} (h:StSt a b pre k) (hk:k < b.length):StSt a b (pre ++ [nextO a b k]) (k + sizeO (nextO a b k))/\(pre ++ [nextO a b k]) <+: stepsS a b:=by
 have hs:=nextO_size (a:=a) hk
 have h1:stepsGo a b (b.length - k) k=nextO a b k :: stepsGo a b (b.length - (k + sizeO (nextO a b k))) (k + sizeO (nextO a b k)):=by
  obtain ⟨f,hf⟩:∃ f,b.length - k=f + 1:=⟨b.length - k - 1,by omega⟩
  rw [hf,stepsGo,if_pos hk,stepsGo_fuel f (b.length - (k + sizeO (nextO a b k))) _ (by omega) (by omega)]
 have h2:pre ++ [nextO a b k] ++ stepsGo a b (b.length - (k + sizeO (nextO a b k))) (k + sizeO (nextO a b k))=stepsS a b:=by
  rw [<-h.eq,h1]; simp
 exact ⟨⟨hs.2,h2⟩,⟨_,h2⟩⟩
theorem StSt.done {a b:List UInt8} {pre:List Dop} {k:Nat} (h:StSt a b pre k) (hk:¬ k < b.length):pre=stepsS a b:=by
 have:=h.eq
 rwa [stepsGo_end (by omega),List.append_nil] at this
def okS (a b:List UInt8) (pre:List Dop) (x:Dop):Prop:=(pre ++ [x]) <+: stepsS a b
structure DiIn (a b:List UInt8) (B ib bb xb fb:Nat) (W:World):Prop where
 ix:IxOf a B ib W
 bc:W.cell? ⟨bb,0,none⟩=some (.string ⟨b.toArray⟩)
 xc:W.cell? ⟨xb,0,none⟩=some (.pointer (some ⟨ib,0,none⟩))
 fc:W.cell? ⟨fb,0,none⟩=some (.func (.func 115) #[] #[.pointer (some ⟨bb,0,none⟩),.pointer (some ⟨xb,0,none⟩)])
 lt:bb < B/\xb < B/\fb < B
theorem DiIn.below {a b:List UInt8} {B ib bb xb fb:Nat} {W W':World} (h:DiIn a b B ib bb xb fb W) (hb:Below B W W'):DiIn a b B ib bb xb fb W':=
 ⟨h.ix.below hb (Nat.le_refl _),(hb.cell h.lt.1).trans h.bc,(hb.cell h.lt.2.1).trans h.xc,(hb.cell h.lt.2.2).trans h.fc,h.lt⟩
theorem steps_iter {a b:List UInt8} {B ib bb xb fb:Nat} {w:World} (hd:DiIn a b B ib bb xb fb w) (hB:B<=w.heap.size) (ha:a.length<=1000) (hbl:(b.length:Int)<=1000000) (m:Nat) (hm:1<=m) :
  IterS Fence.wide m Tryz.prog 118 #[.pointer (some ⟨bb,0,none⟩),.pointer (some ⟨fb,0,none⟩)] (fun k=>k < B) Dop.val (okS a b) (stepsS a b) w:=by
 intro l J Y hJ hY hYl W hbW h0
 refine callsIn_of_wp Tryz.func118 rfl trivial ?_ rfl
 simp only [Tryz.ntmps118,List.size_toArray,List.length_cons,List.length_nil,Nat.reduceAdd,Nat.reduceSub,Array.replicate_succ,Array.replicate_zero,List.push_toArray,List.append_toArray,List.nil_append,List.cons_append]
 have HJ:=hid hJ
 have HY:=hid hY
 have HYL:=hid hYl
 have HD0:Hid (DiIn a b B ib bb xb fb W):=hid (hd.below (hbW.mono hB))
 have HBW:Hid (B<=W.heap.size):=hid (Nat.le_trans hB hbW.size)
 have H0:=hid h0
 obtain ⟨n,hn⟩:∃ n,n=b.length:=⟨_,rfl⟩
 have HN:Hid (n=b.length):=hid hn
 have hss:(⟨b.toArray⟩:ByteArray).size=n:=by rw [ba_len,hn]
 rw [<-hn] at hbl
 clear hJ hY hYl hd hbW h0 hn
 gi_wp2
 gi_loopw [4] (fun i wr=>∃ (k:Nat) (pre:List Dop),i = .int .i64 (k:Int)/\k<=n/\Hid (J pre wr)/\Hid (StSt a b pre k)/\Hid (DiIn a b B ib bb xb fb wr)/\Hid (B<=wr.heap.size)) (fun i _=>n - (intOf i).toNat)
 case atStart=>exact ⟨0,[],rfl,by omega,H0,hid (StSt.start a b),HD0,HBW⟩
 clear H0 HD0 HBW
 obtain ⟨k,pre,rfl,hk,HJ0,HS,HD,HBW⟩:=hrel
 have hbc:=HD.out.bc
 by_cases hlt:k < n
 ·have hkn:(k:Int) < (n:Int):=by omega
  obtain ⟨hst,hok⟩:=HS.out.next (by rw [<-HN.out]; exact hlt)
  have hsz:=nextO_size (a:=a) (b:=b) (k:=k) (by rw [<-HN.out]; exact hlt)
  have hle:(sizeO (nextO a b k):Int) + k<=n:=by have:=HN.out; omega
  obtain ⟨q1,q2,hq⟩:∃ q1 q2,bestM a (b.drop k)=(q1,q2):=⟨_,_,rfl⟩
  obtain ⟨u1,hu1⟩:∃ u1,u1=wr.alloc (.cells #[.int .i64 0,.int .i64 0,.string ⟨((b.drop k).take 1).toArray⟩] 180):=⟨_,rfl⟩
  have hb1:Below wr.heap.size wr u1:=by rw [hu1]; exact (Below.refl _ _).alloc (Nat.le_refl _) _
  have hk1:BK wr.heap.size #[.int .i64 0,.int .i64 0,.string ⟨((b.drop k).take 1).toArray⟩] 180 u1:=by rw [hu1]; exact BK.new _ _ _
  have hd1:=HD.out.below (hb1.mono HBW.out)
  have HLG:=hid (longest_any (hd1.ix.mono (Nat.le_trans HBW.out hb1.size)) hd1.bc hd1.xc ha (by rw [<-HN.out]; exact hbl) k (by rw [<-HN.out]; exact hk))
  rw [hq] at HLG
  simp only at HLG
  have hfc:=hd1.fc
  have hex:=ex_mid b k (k + 1)
  rw [show k + 1 - k=1 by omega] at hex
  have hwk:IntKind.i64.wrap ((k:Int) + 1)=((k + 1:Nat):Int):=by rw [wrap_i64 (by omega) (by omega)]; omega
  have hnx:nextO a b k=if 4<=q2 then ⟨q1,q2,[]⟩ else ⟨0,0,(b.drop k).take 1⟩:=by unfold nextO; rw [hq]
  generalize (b.drop k).take 1=bs at *
  have HU1:=hid hu1
  rw [hu1] at HLG hfc
  have HST:=hid hst
  have HOK:=hid hok
  have hsz1:=hsz.1
  have hub1:=hb1.size
  have hne:wr.heap.size < u1.heap.size:=hk1.lt
  by_cases h4:4<=q2
  ·rw [if_pos h4] at hnx
   have h4i:(4:Int)<=(q2:Int):=by omega
   rw [hnx] at HST HOK hle hsz1
   clear hnx hsz hst hok hd1 hq hu1 HS
   gi_wp2
   refine ⟨trivial,?_⟩
   refine (callsIn_wide.2 HLG.out).mono ?_
   rintro e u2 ⟨rfl,hb2⟩
   rw [<-HU1.out] at hb2
   have hk2:=hk1.below hb2
   have hb12:=hb1.trans (hb2.mono hub1)
   clear HLG hfc HU1 hbc
   obtain ⟨c0,c1,c2⟩:=BK.c3 (show BK _ #[.int .i64 0,.int .i64 0,.string ⟨bs.toArray⟩] _ _ from hk2)
   obtain ⟨fc0,fc1,fc2⟩:=BK.f3 (hk2)
   obtain ⟨u3,hu3⟩:∃ u3,u3=((u2.setCell ⟨wr.heap.size,0,none⟩ (.int .i64 (q1:Int))).setCell ⟨wr.heap.size,1,none⟩ (.int .i64 (q2:Int))).setCell ⟨wr.heap.size,2,none⟩ (.string ⟨#[]⟩):=⟨_,rfl⟩
   have hk3:BK wr.heap.size #[.int .i64 (q1:Int),.int .i64 (q2:Int),.string ⟨#[]⟩] 180 u3:=by
    rw [hu3]
    have e0:BK _ #[.int .i64 (q1:Int),.int .i64 0,.string ⟨bs.toArray⟩] _ _:=hk2.set 0 (.int .i64 (q1:Int))
    have e1:BK _ #[.int .i64 (q1:Int),.int .i64 (q2:Int),.string ⟨bs.toArray⟩] _ _:=e0.set 1 (.int .i64 (q2:Int))
    exact e1.set 2 (.string ⟨#[]⟩)
   have hb3:Below wr.heap.size wr u3:=by rw [hu3]; exact ((hb12.setCell (Nat.le_refl _) _).setCell (Nat.le_refl _) _).setCell (Nat.le_refl _) _
   obtain ⟨fn,tmps,assign,body,hy,hR⟩:=HYL.out pre ⟨q1,q2,[]⟩ wr u3 HOK.out HJ0.out hb3
   simp only [Dop.val] at hy
   have HK3:=hid hk3
   have HB3:=hid hb3
   obtain ⟨d0,d1,d2⟩:=BK.c3 (show BK _ #[.int .i64 (q1:Int),.int .i64 (q2:Int),.string ⟨#[]⟩] _ _ from hk3)
   rw [hu3] at hy d0 d1 d2
   rw [hu3] at hR
   have HU3:=hid hu3
   clear hk2 hb12 hb2 hk3 hb3 hu3 hk1 hb1
   gi_wp2
   refine hR.mono ?_
   rintro e W3 ⟨hbK,hkp,hcase⟩
   have hbB:=hbK.to_below (m:=B) (fun _ h=>h)
   rw [<-HU3.out] at hbB hkp
   have hk4:BK wr.heap.size #[.int .i64 (q1:Int),.int .i64 (q2:Int),.string ⟨#[]⟩] 180 W3:=hkp _ _ (Nat.le_refl _) HK3.out.lt HK3.out (fun c f e=>by injection e with _ h2 _; exact absurd h2 (by decide))
   have hd4:=HD.out.below ((HB3.out.mono HBW.out).trans hbB)
   have hw4:B<=W3.heap.size:=Nat.le_trans HBW.out (Nat.le_trans HB3.out.size hbB.size)
   clear hy hR d0 d1 d2 c0 c1 c2 fc0 fc1 fc2
   rcases hcase with ⟨rfl,hJ4⟩ | ⟨rfl,hY4⟩
   ·have HSZ:=hid (dsize_any ⟨q1,q2,[]⟩ W3)
    simp only [Dop.val] at HSZ
    obtain ⟨d0,d1,d2⟩:=BK.c3 (show BK _ #[.int .i64 (q1:Int),.int .i64 (q2:Int),.string ⟨#[]⟩] _ _ from hk4)
    have HJ4:=hid hJ4
    have HD4:=hid hd4
    have HW4:=hid hw4
    generalize hzz:sizeO ⟨q1,q2,[]⟩=z at *
    have hwz:IntKind.i64.wrap ((k:Int) + (z:Int))=((k + z:Nat):Int):=by rw [wrap_i64 (by omega) (by omega)]; omega
    clear hkp hbB hk4 hJ4 hd4 hw4 HU3 HK3 HB3 HD HBW HJ0
    gi_wp2
    refine ⟨trivial,?_⟩
    refine (callsIn_wide.2 HSZ.out).mono ?_
    rintro e u5 ⟨rfl,hb5⟩
    have HJ5:=hid (HJ.out _ _ _ HJ4.out hb5)
    have HD5:=hid (HD4.out.below (hb5.mono HW4.out))
    have HW5:=hid (Nat.le_trans HW4.out hb5.size)
    clear hb5 HSZ d0 d1 d2
    gi_wp2
    go_roundw
    case rel=>exact ⟨k + z,_,by go_num,by omega,HJ5,HST,HD5,HW5⟩
    case measure=>simp only [intOf]; omega
   ·clear hkp hbB hk4 hd4 hw4 HU3 HK3 HB3 HD HBW HJ0 HST HOK
    gi_wp2
    refine bodyPost_ret (results_none rfl _ _ _) rfl ?_
    exact ⟨⟨_,rfl⟩,.inr hY4⟩
  ·rw [if_neg h4] at hnx
   have h4i:¬ (4:Int)<=(q2:Int):=by omega
   rw [hnx] at HST HOK hle hsz1
   clear hnx hsz hst hok hd1 hq hu1 HS
   gi_wp2
   refine ⟨trivial,?_⟩
   refine (callsIn_wide.2 HLG.out).mono ?_
   rintro e u2 ⟨rfl,hb2⟩
   rw [<-HU1.out] at hb2
   have hk2:=hk1.below hb2
   have hb12:=hb1.trans (hb2.mono hub1)
   clear HLG hfc HU1 hbc
   obtain ⟨fn,tmps,assign,body,hy,hR⟩:=HYL.out pre ⟨0,0,bs⟩ wr u2 HOK.out HJ0.out hb12
   simp only [Dop.val] at hy
   have HK3:=hid hk2
   have HB3:=hid hb12
   rw [show ((0:Nat):Int)=0 from rfl] at hy
   obtain ⟨d0,d1,d2⟩:=BK.c3 (show BK _ #[.int .i64 0,.int .i64 0,.string ⟨bs.toArray⟩] _ _ from hk2)
   clear hk2 hb12 hb2 hk1 hb1
   gi_wp2
   refine hR.mono ?_
   rintro e W3 ⟨hbK,hkp,hcase⟩
   have hbB:=hbK.to_below (m:=B) (fun _ h=>h)
   have hk4:BK wr.heap.size #[.int .i64 0,.int .i64 0,.string ⟨bs.toArray⟩] 180 W3:=hkp _ _ (Nat.le_refl _) HK3.out.lt HK3.out (fun c f e=>by injection e with _ h2 _; exact absurd h2 (by decide))
   have hd4:=HD.out.below ((HB3.out.mono HBW.out).trans hbB)
   have hw4:B<=W3.heap.size:=Nat.le_trans HBW.out (Nat.le_trans HB3.out.size hbB.size)
   clear hy hR d0 d1 d2
   rcases hcase with ⟨rfl,hJ4⟩ | ⟨rfl,hY4⟩
   ·have HSZ:=hid (dsize_any ⟨0,0,bs⟩ W3)
    simp only [Dop.val] at HSZ
    rw [show ((0:Nat):Int)=0 from rfl] at HSZ
    obtain ⟨d0,d1,d2⟩:=BK.c3 (show BK _ #[.int .i64 0,.int .i64 0,.string ⟨bs.toArray⟩] _ _ from hk4)
    have HJ4:=hid hJ4
    have HD4:=hid hd4
    have HW4:=hid hw4
    generalize hzz:sizeO ⟨0,0,bs⟩=z at *
    have hwz:IntKind.i64.wrap ((k:Int) + (z:Int))=((k + z:Nat):Int):=by rw [wrap_i64 (by omega) (by omega)]; omega
    clear hkp hbB hk4 hJ4 hd4 hw4 HK3 HB3 HD HBW HJ0
    gi_wp2
    refine ⟨trivial,?_⟩
    refine (callsIn_wide.2 HSZ.out).mono ?_
    rintro e u5 ⟨rfl,hb5⟩
    have HJ5:=hid (HJ.out _ _ _ HJ4.out hb5)
    have HD5:=hid (HD4.out.below (hb5.mono HW4.out))
    have HW5:=hid (Nat.le_trans HW4.out hb5.size)
    clear hb5 HSZ d0 d1 d2
    gi_wp2
    go_roundw
    case rel=>exact ⟨k + z,_,by go_num,by omega,HJ5,HST,HD5,HW5⟩
    case measure=>simp only [intOf]; omega
   ·clear hkp hbB hk4 hd4 hw4 HK3 HB3 HD HBW HJ0 HST HOK
    gi_wp2
    refine bodyPost_ret (results_none rfl _ _ _) rfl ?_
    exact ⟨⟨_,rfl⟩,.inr hY4⟩
 ·obtain rfl:k=n:=by omega
  have hkn:¬ (k:Int) < (k:Int):=by omega
  have HR:=hid (HS.out.done (by rw [<-HN.out]; omega))
  clear HS HD
  gi_wp2
  go_end0
  exact ⟨⟨_,rfl⟩,.inl (by rw [<-HR.out]; exact HJ0.out)⟩
end
end Go.Proofs.YtijkieiihpiljaaGreat
