/- Joined texts: TtRw, TtRa, TtRb, TtRc, TtRd, TtRe. -/
import Derived.Test.YtdedfkljaeloiaaGreatDoorG1
/- Rows of files in memory. -/
set_option maxRecDepth 100000
set_option maxHeartbeats 16000000
open Go.Lib (hid)
namespace Go.Proofs.YtdedfkljaeloiaaGreatDoor
open Go.RowKit Go.Shelf
set_option linter.unusedVariables false
def flCs (x:Fl):List Value:=[.string ⟨x.path.toArray⟩,.string ⟨x.data.toArray⟩]
theorem layFl:Lay flCs 2:=⟨by decide,fun o=>rfl,fun o v hv=>by
 simp only [flCs,List.mem_cons,List.not_mem_nil,or_false] at hv
 rcases hv with rfl | rfl <;> rfl⟩
abbrev Fls (B:Nat) (W:World) (a:Option Addr) (l:List Fl):Prop:=GIn flCs 2 B W a l
theorem fl_cells {B:Nat} {W:World} {a:Option Addr} {l:List Fl} (h:Fls B W a l) {k:Nat} (hk:k < l.length):∃ b off,a=some ⟨b,off,none⟩/\b < B/\W.cell? ⟨b,off + k * 2,none⟩=some (.string ⟨l[k].path.toArray⟩)/\W.cell? ⟨b,off + k * 2 + 1,none⟩=some (.string ⟨l[k].data.toArray⟩):=by
 obtain ⟨b,off,h1,h2,h3⟩:=h k hk
 exact ⟨b,off,h1,h2,h3 0 _ rfl,h3 1 _ rfl⟩
theorem infoFl:(Tryz.prog.info? 55).map (fun i=>(i.zero,i.size,i.bytes))=some (some (.agg #[.string ⟨#[]⟩,.string ⟨#[]⟩]),2,32):=by kernel_rfl
theorem append_fl {base:Nat} {W:World} {v:Value} {n:Nat} {l:List Fl} (hn:n=l.length) (hown:W.ownsRow base 55 2 v n (gcs flCs l)) (x:Fl) (hlen:(n:Int)<=1000000) (hbase:base<=W.heap.size) :
  ∃ v' W',Hid ((Builtin.append_ #[23,23] 23 #[v,.slice (some ⟨W.heap.size,0,none⟩) 1 1]).run Tryz.prog (W.alloc (.cells (flCs x).toArray 55)) = .ok v' W')/\W'.ownsRow base 55 2 v' (n + 1) (gcs flCs (l ++ [x]))/\(W.alloc (.cells (flCs x).toArray 55)).grownBy W' v.ownBlock/\(v'.ownBlock=v.ownBlock\/v'.ownBlock=some (W.heap.size + 1)):=by
 obtain ⟨i0,hi,hz0,hz1,hz2⟩:=info_parts infoFl
 exact append_oneG layFl Tryz.underlying23 hi hz0 hz1 hz2 rfl hn hown x hlen (by decide) hbase
def GotFs (w:World) (l:List Fl) (e:Ending) (w':World):Prop:=∃ a c,e = .returned (.slice a l.length c)/\Fls w'.heap.size w' a l/\l.length<=c/\Below w.heap.size w w'/\∀ ad,a=some ad->w.heap.size<=ad.block
theorem own_newF {W:World} {base:Nat} {e:TypeId} {z:Nat} {a:Option Addr} {n m c:Nat} {xs:List Value} (h:W.ownsRow base e z (.slice a n c) m xs):∀ ad,a=some ad->base<=ad.block:=by
 intro ad ha
 subst ha
 exact (h.lt ad.block rfl).1
def bigF (x:Fl):Bool:=decide (120 < x.path.length) || decide (200 < x.data.length)
def greatF (l:List Fl):Bool:=decide (10 < l.length) || l.any bigF
theorem any_take {α:Type} (p:α->Bool) {l:List α} (h:∀ j (hj:j < l.length),p l[j]=false):l.any p=false:=by
 rw [List.any_eq_false]
 intro x hx
 obtain ⟨j,hj,rfl⟩:=List.getElem_of_mem hx
 simpa using h j hj
theorem great09_any (a:Option Addr) (l:List Fl) (c:Nat) (w:World) (hl:Fls w.heap.size w a l) (hn:(l.length:Int)<=9223372036854775807) :
  Calls Tryz.prog 4 #[.slice a l.length c] w fun e w'=>e = .returned (.bool (greatF l))/\w=w':=by
 obtain ⟨R,hR⟩:∃ R,R=greatF l:=⟨_,rfl⟩
 rw [<-hR]
 unfold greatF at hR
 have HL:=hid hl
 have HBIG:Hid (∀ k (hk:k < l.length),bigF l[k]=true->R=true):=hid (fun k hk h=>by
  rw [hR,Bool.or_eq_true]
  exact .inr (List.any_eq_true.2 ⟨_,List.getElem_mem hk,h⟩))
 have HNO:Hid (¬ 10 < l.length->(∀ j (hj:j < l.length),bigF l[j]=false)->R=false):=hid (fun h1 h2=>by rw [hR,any_take bigF h2]; simpa using h1)
 have HTEN:Hid (10 < l.length->R=true):=hid (fun h=>by rw [hR]; simp [h])
 obtain ⟨n,hnn⟩:∃ n,n=l.length:=⟨_,rfl⟩
 have HN:=hid hnn
 have HNO:Hid (¬ 10 < n->(∀ j (hj:j < l.length),bigF l[j]=false)->R=false):=hid (fun h1 h2=>HNO.out (by rw [<-hnn]; exact h1) h2)
 rw [<-hnn] at hn HTEN ⊢
 clear hR hl hnn
 by_cases h10:10 < n
 ·have hi:(10:Int) < (n:Int):=by omega
  have HR:=hid (HTEN.out h10)
  clear HTEN HNO HBIG
  go_enter Tryz.func4,Tryz.ntmps4
  go_wp2_with fail
  go_ret
  exact ⟨by rw [HR.out]; rfl,rfl⟩
 have hi:¬ (10:Int) < (n:Int):=by omega
 have HNO3:=hid (HNO.out h10)
 clear HTEN HNO
 go_enter Tryz.func4,Tryz.ntmps4
 go_wp2_with fail
 go_loopw [3] (fun i wr=>∃ k:Nat,k<=n/\i = .int .i64 (k:Int)/\Hid (∀ j (hj:j < l.length),j < k->bigF l[j]=false)/\wr=w) (fun i _=>n - (intOf i).toNat)
 case atStart=>exact ⟨0,by omega,rfl,hid (fun j _ h=>by omega),rfl⟩
 case round=>
  obtain ⟨k,hk,rfl,HA,hw⟩:=hrel
  subst hw
  by_cases hlt:k < n
  ·have hki:(k:Int) < (n:Int):=by omega
   have hkl:k < l.length:=by rw [<-HN.out]; exact hlt
   obtain ⟨b0,of0,haa,hbb,q0,q1⟩:=fl_cells HL.out hkl
   have HB:=hid (HBIG.out k hkl)
   have HNX:Hid (bigF l[k]=false->∀ j (hj:j < l.length),j < k + 1->bigF l[j]=false):=hid (fun h j hj hjk=>by
    by_cases e:j=k
    ·subst e; exact h
    ·exact HA.out j hj (by omega))
   generalize l[k]=x at q0 q1 HB HNX
   obtain ⟨P,D⟩:=x
   simp only at q0 q1
   have hsP:=ba_len P
   have hsD:=ba_len D
   have HBG:Hid (bigF ⟨P,D⟩=(decide (120 < P.length) || decide (200 < D.length))):=hid rfl
   rw [haa]
   clear hkl HA HBIG HNO3
   by_cases h1:(120:Int) < (P.length:Int)
   ·have HR:=hid (HB.out (by rw [HBG.out,decide_eq_true (show 120 < P.length by omega)]; rfl))
    clear HB HNX HBG
    go_wp2_with fail
    go_ret
    exact ⟨by rw [HR.out]; rfl,rfl⟩
   ·by_cases h2:(200:Int) < (D.length:Int)
    ·have HR:=hid (HB.out (by rw [HBG.out,decide_eq_true (show 200 < D.length by omega)]; simp))
     clear HB HNX HBG
     go_wp2_with fail
     go_ret
     exact ⟨by rw [HR.out]; rfl,rfl⟩
    ·have HA2:=hid (HNX.out (by rw [HBG.out,decide_eq_false (show ¬ 120 < P.length by omega),decide_eq_false (show ¬ 200 < D.length by omega)]; rfl))
     clear HB HNX HBG
     go_wp2_with fail
     go_roundw
     case rel=>exact ⟨k + 1,by omega,by go_num,HA2,trivial⟩
     case measure=>simp [intOf] <;> omega
  ·obtain rfl:k=n:=by omega
   have hki:¬ (k:Int) < (k:Int):=by omega
   have HR:=hid (HNO3.out (fun j hj=>HA.out j hj (by have:=HN.out; omega)))
   go_wp2_with fail
   go_ret
   exact ⟨by rw [HR.out]; rfl,rfl⟩
def findR (l:List Fl) (s:List UInt8):List UInt8 × Bool:=match findF l s with
 | some d=>(d,true)
 | none=>([],false)
theorem findF_none' {l:List Fl} {s:List UInt8} (h:∀ j (hj:j < l.length),l[j].path ≠ s):findF l s=none:=by
 unfold findF
 rw [List.find?_eq_none.2 (fun x hx=>by obtain ⟨j,hj,rfl⟩:=List.getElem_of_mem hx; simpa using h j hj)]
 rfl
theorem findF_first {l:List Fl} {s:List UInt8} {k:Nat} (hk:k < l.length) (h:∀ j (hj:j < l.length),j < k->l[j].path ≠ s) (he:l[k].path=s):findF l s=some l[k].data:=by
 unfold findF
 rw [List.find?_eq_some_iff_getElem.2 ⟨by simpa using he,k,hk,rfl,fun j hj=>by simpa using h j (by omega) hj⟩]
 rfl
theorem lessF_drop {l:List Fl} {s:List UInt8} {k:Nat} (h:k < l.length):lessF (l.drop k) s=(if l[k].path=s then [] else [l[k]]) ++ lessF (l.drop (k + 1)) s:=by
 rw [List.drop_eq_getElem_cons h]
 unfold lessF
 by_cases hp:l[k].path=s
 ·rw [List.filter_cons_of_neg (by simpa using hp),if_pos hp]; rfl
 ·rw [List.filter_cons_of_pos (by simpa using hp),if_neg hp]; rfl
theorem own_fls {W:World} {base:Nat} {a:Option Addr} {n c:Nat} {l:List Fl} (hn:n=l.length) (h:W.ownsRow base 55 2 (.slice a n c) n (gcs flCs l)):Fls W.heap.size W a l:=own_gin layFl hn h
def withR (f:Fl):Bool->List Fl->List Fl
 | put,[]=>if put=true then [] else [f]
 | put,x :: l=>(if (!put && !Op.bytesLess x.path f.path)=true then [f] else []) ++ ((if x.path=f.path then [] else [x]) ++ withR f (put || !Op.bytesLess x.path f.path) l)
theorem withR_put (f:Fl):∀ {l:List Fl},AscF l->(∀ x ∈ l,ltS f.path x.path)->withR f true l=l
 | [],_,_=>rfl
 | x :: l,h,h2=>by
  have g:=List.pairwise_cons.1 h
  have h3:=h2 x (by simp)
  rw [withR,Bool.true_or,withR_put f g.2 (fun y hy=>h2 y (by simp [hy])),if_neg (by simp),if_neg (fun e=>by rw [e] at h3; exact ltS_irrefl _ h3)]
  rfl
theorem withR_eq (f:Fl):∀ {l:List Fl},AscF l->withR f false l=withF l f
 | [],_=>rfl
 | x :: l,h=>by
  have g:=List.pairwise_cons.1 h
  rw [withR,withF]
  by_cases h1:ltS x.path f.path
  ·have h1':Op.bytesLess x.path f.path=true:=h1
   have h2:¬ x.path=f.path:=fun e=>by rw [e] at h1; exact ltS_irrefl _ h1
   rw [if_pos h1,h1',if_neg (by simp),if_neg h2]
   simp only [Bool.not_true,Bool.or_false,List.nil_append,List.cons_append]
   rw [withR_eq f g.2]
  ·have h1':Op.bytesLess x.path f.path=false:=by simpa [ltS] using h1
   rw [if_neg h1,h1',if_pos (by rfl)]
   simp only [Bool.not_false,Bool.or_true]
   by_cases h2:x.path=f.path
   ·rw [if_pos h2,if_pos h2,withR_put f g.2 (fun y hy=>by rw [<-h2]; exact g.1 y hy)]
    rfl
   ·have h3:ltS f.path x.path:=by
     rcases ltS_total f.path x.path with h | h | h
     ·exact h
     ·exact absurd h.symm h2
     ·exact absurd h h1
    rw [if_neg h2,if_neg h2,withR_put f g.2 (fun y hy=>ltS_trans h3 (g.1 y hy))]
    rfl
structure WSt (w W:World) (f:Fl) (v:Value) (out:List Fl):Prop where
 box:BK w.heap.size #[.string ⟨f.path.toArray⟩,.string ⟨f.data.toArray⟩] 55 W
 own:W.ownsRow (w.heap.size + 1) 55 2 v out.length (gcs flCs out)
 bel:Below w.heap.size w W
theorem WSt.drew {w W:World} {f:Fl} {v:Value} {out:List Fl} (h:WSt w W f v out) (n:Nat):WSt w (W.drewN n) f v out:=by
 have hb:=below_drewN (Below.refl W.heap.size W) n
 exact ⟨h.box.below hb,own_below h.own hb,below_drewN h.bel n⟩
theorem WSt.push {w W:World} {f:Fl} {v:Value} {out:List Fl} (h:WSt w W f v out) (x:Fl) (hn:(out.length:Int)<=1000000) :
  ∃ v' W',Hid ((Builtin.append_ #[23,23] 23 #[v,.slice (some ⟨W.heap.size,0,none⟩) 1 1]).run Tryz.prog (W.alloc (.cells #[.string ⟨x.path.toArray⟩,.string ⟨x.data.toArray⟩] 55)) = .ok v' W')/\WSt w W' f v' (out ++ [x]):=by
 have h0:=h.box.lt
 obtain ⟨v',W',hrun,hown',hg',_⟩:=append_fl rfl h.own x hn (by omega)
 exact ⟨v',W',hrun,(h.box.alloc _).grow hg' (fun k hk=>by have:=(h.own.lt k hk).1; omega),by rw [List.length_append]; exact hown',(h.bel.alloc h.bel.size _).grown hg' (by simp; have:=h.bel.size; omega) (fun k hk=>by have:=(h.own.lt k hk).1; omega)⟩
theorem withR_one (f:Fl) (put:Bool) {l:List Fl} {k:Nat} (h:k < l.length):withR f put (l.drop k)=(if (!put && !Op.bytesLess l[k].path f.path)=true then [f] else []) ++ ((if l[k].path=f.path then [] else [l[k]]) ++ withR f (put || !Op.bytesLess l[k].path f.path) (l.drop (k + 1))):=by
 rw [List.drop_eq_getElem_cons h,withR]
theorem neq_fl (xn yn xd yd:List UInt8) (W:World):(binOp .neq 55 (.agg #[.string ⟨xn.toArray⟩,.string ⟨xd.toArray⟩]) (.agg #[.string ⟨yn.toArray⟩,.string ⟨yd.toArray⟩])).run Tryz.prog W = .ok (.bool (!decide ((⟨xn,xd⟩:Fl)=⟨yn,yd⟩))) W:=by
 rw [run_neq_struct,run_equalIn_struct W 9999 55 _ _ (by kernel_rfl) (by kernel_rfl)]
 have hf : (Tryz.prog.fieldsOf 55).toList = [{ name := "Path", type := 9, offset := 0, embedded := false, tag := "", pkgPath := "", byteOffset := 0 }, { name := "Data", type := 9, offset := 1, embedded := false, tag := "", pkgPath := "", byteOffset := 16 }] := by kernel_rfl
 rw [hf]
 have p0:∀ (s c:ByteArray) (V:World),(Go.part 9 #[.string s,.string c] 0).run Tryz.prog V = .ok (.string s) V:=fun s c V=>by kernel_rfl
 have p1:∀ (s c:ByteArray) (V:World),(Go.part 9 #[.string s,.string c] 1).run Tryz.prog V = .ok (.string c) V:=fun s c V=>by kernel_rfl
 have q0:=fun V=>run_equalIn_string (P:=Tryz.prog) V 9998 9 ⟨xn.toArray⟩ ⟨yn.toArray⟩ Tryz.underlying9
 have q1:=fun V=>run_equalIn_string (P:=Tryz.prog) V 9998 9 ⟨xd.toArray⟩ ⟨yd.toArray⟩ Tryz.underlying9
 have hsx:(⟨xn.toArray⟩:ByteArray).toList=xn:=by rw [Lib.toList_data]
 have hsy:(⟨yn.toArray⟩:ByteArray).toList=yn:=by rw [Lib.toList_data]
 have hdx:(⟨xd.toArray⟩:ByteArray).toList=xd:=by rw [Lib.toList_data]
 have hdy:(⟨yd.toArray⟩:ByteArray).toList=yd:=by rw [Lib.toList_data]
 rw [hsx,hsy] at q0
 rw [hdx,hdy] at q1
 simp only [Op.eqFields,Sem.run_bind,Sem.run_ite,p0,p1,q0,q1,Result.andThen_ok]
 by_cases h1:xn=yn <;> by_cases h2:xd=yd <;> simp [h1,h2]
theorem fl_eq_take {l m:List Fl} (hl:l.length=m.length) {k:Nat} (hk:k < l.length) (hm:k < m.length) (h:l.take k=m.take k) (he:l[k]=m[k]):l.take (k + 1)=m.take (k + 1):=by
 rw [List.take_succ_eq_append_getElem hk,List.take_succ_eq_append_getElem hm,h,he]
structure Ed where
 rm:Bool
 path:List UInt8
 data:List UInt8
deriving DecidableEq
def edCs (x:Ed):List Value:=[.bool x.rm,.string ⟨x.path.toArray⟩,.string ⟨x.data.toArray⟩]
theorem layEd:Lay edCs 3:=⟨by decide,fun o=>rfl,fun o v hv=>by
 simp only [edCs,List.mem_cons,List.not_mem_nil,or_false] at hv
 rcases hv with rfl | rfl | rfl <;> rfl⟩
abbrev Eds (B:Nat) (W:World) (a:Option Addr) (l:List Ed):Prop:=GIn edCs 3 B W a l
theorem ed_cells {B:Nat} {W:World} {a:Option Addr} {l:List Ed} (h:Eds B W a l) {k:Nat} (hk:k < l.length):∃ b off,a=some ⟨b,off,none⟩/\b < B/\W.cell? ⟨b,off + k * 3,none⟩=some (.bool l[k].rm)/\W.cell? ⟨b,off + k * 3 + 1,none⟩=some (.string ⟨l[k].path.toArray⟩)/\W.cell? ⟨b,off + k * 3 + 2,none⟩=some (.string ⟨l[k].data.toArray⟩):=by
 obtain ⟨b,off,h1,h2,h3⟩:=h k hk
 exact ⟨b,off,h1,h2,h3 0 _ rfl,h3 1 _ rfl,h3 2 _ rfl⟩
def bigE (x:Ed):Bool:=decide (120 < x.path.length) || decide (200 < x.data.length)
def longE (l:List Ed):Bool:=decide (8 < l.length) || l.any bigE
end Go.Proofs.YtdedfkljaeloiaaGreatDoor
