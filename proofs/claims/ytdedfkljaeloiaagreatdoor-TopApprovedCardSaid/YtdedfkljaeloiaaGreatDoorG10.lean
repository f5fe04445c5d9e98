/- Joined texts: ApGr, ApDp, ApCg, ApDf. -/
import Derived.Test.YtdedfkljaeloiaaGreatDoorG9
import Derived.Test.YtdedfkljaeloiaaGreatDoorPkHl
import Derived.Lib.QuietBelow
import Derived.BigQuiet
/- owners.Groups. -/
set_option maxRecDepth 100000
set_option maxHeartbeats 16000000
open Go.Lib (hid)
namespace Go.Proofs.YtdedfkljaeloiaaGreatDoor
open Go.RowKit Go.Shelf
set_option linter.unusedVariables false
def groupsS (l:List Fl) (P:Pa):List (List Pa):=ownG (ruM l) (dirsP P)
def grOk (l:List Fl) (P:Pa):Prop:=checkF l=0/\checkF [⟨P,[]⟩]=0
theorem ruM_go_some:∀ (l:List Fl) (M:Pa->Option (List Ru)) (s:Pa) (R:List Ru),l.foldl ruStep M s=some R->M s=some R\/∃ f ∈ l,parseS f.data=some R
 | [],M,s,R,h=>.inl h
 | f :: l,M,s,R,h=>by
  rw [List.foldl_cons] at h
  rcases ruM_go_some l _ s R h with h | ⟨g,hg,e⟩
  ·unfold ruStep at h
   split at h
   ·exact .inr ⟨f,by simp,h⟩
   ·exact .inl h
  ·exact .inr ⟨g,List.mem_cons_of_mem _ hg,e⟩
theorem ruM_some {l:List Fl} {s:Pa} {R:List Ru} (h:ruM l s=some R):∃ f ∈ l,parseS f.data=some R:=by
 rcases ruM_go_some l _ s R h with h | h
 ·cases h
 ·exact h
theorem ruM_sh (l:List Fl):ShM (ruM l):=fun p R h=>by
 obtain ⟨f,hf,e⟩:=ruM_some h
 obtain ⟨h1,h2,h3⟩:=parse_ok e
 refine ⟨by omega,fun r hr=>?_⟩
 have:=h3 r hr
 simp only [ruleB,prefB,Bool.and_eq_true,decide_eq_true_eq] at this
 omega
theorem groups_gd {l:List Fl} {P:Pa} {g:List Pa} (h:g ∈ groupsS l P):GdG g/\g.length<=20:=by
 obtain ⟨p,R,hR,r,hr,hg⟩:=ownG_mem h
 obtain ⟨f,hf,e⟩:=ruM_some hR
 obtain ⟨h1,h2,h3⟩:=parse_ok e
 refine ⟨fun x hx=>?_,?_⟩
 ·have:=(h1 r hr).2 g hg x hx
  exact ⟨this.1,this.2.1⟩
 ·have:=h3 r hr
  simp only [ruleB,Bool.and_eq_true,List.all_eq_true,decide_eq_true_eq] at this
  exact ((this.2 g hg).1.1.2)
theorem groups_sm {N:Nat} {l:List Fl} {P:Pa} {g:List Pa} (hl:∀ f ∈ l,f.data.length<=N) (h:g ∈ groupsS l P):∀ x ∈ g,x.length<=N:=by
 obtain ⟨p,R,hR,r,hr,hg⟩:=ownG_mem h
 obtain ⟨f,hf,e⟩:=ruM_some hR
 obtain ⟨h1,h2,h3⟩:=parse_ok e
 intro x hx
 have:=(h1 r hr).2 g hg x hx
 exact Nat.le_trans this.2.2 (hl f hf)
theorem groups_len {l:List Fl} {P:Pa}:(groupsS l P).length<=8:=by
 unfold groupsS
 generalize dirsP P=ds
 induction ds with
 | nil=>simp [ownG]
 | cons d ds ih=>
  rw [ownG]
  cases hb:bestG d.2 ((ruM l d.1).getD []) with
  | none=>exact ih
  | some G=>
   obtain ⟨r,hr,rfl⟩:=bestG_mem hb
   cases hm:ruM l d.1 with
   | none=>rw [hm] at hr; simp at hr
   | some R=>
    rw [hm] at hr
    obtain ⟨f,hf,e⟩:=ruM_some hm
    have:=(parse_ok e).2.2 r hr
    simp only [ruleB,Bool.and_eq_true,decide_eq_true_eq] at this
    exact this.1.2
def GotGr (w:World) (l:List Fl) (P:Pa) (e:Ending) (w':World):Prop:=Below w.heap.size w w'/\∃ a n c k,e = .returned (.tuple #[.slice a n c,.int .i64 k])/\
 ((grOk l P/\k=0/\n=(groupsS l P).length/\GrW w'.heap.size w' (a,n,c) (groupsS l P))\/(¬ grOk l P/\k ≠ 0))
def SmF (l:List Fl):Prop:=l.length<=200/\∀ x ∈ l,x.path.length<=100000/\x.data.length<=60000
theorem fls_one (P:Pa) (w:World):Fls (w.alloc (.cells #[.string ⟨P.toArray⟩,.string ⟨#[]⟩] 55)).heap.size (w.alloc (.cells #[.string ⟨P.toArray⟩,.string ⟨#[]⟩] 55)) (some ⟨w.heap.size,0,none⟩) [⟨P,[]⟩]:=fun i hi=>by
 obtain rfl:i=0:=by simpa using hi
 obtain ⟨c0,c1⟩:=(BK.new w #[.string ⟨P.toArray⟩,.string ⟨#[]⟩] 55).c2
 refine ⟨w.heap.size,0,rfl,by simp,fun j v hj=>?_⟩
 match j with
 | 0=>simp only [flCs,List.getElem_cons_zero,List.getElem?_cons_zero,Option.some.injEq] at hj; rw [<-hj]; exact c0
 | 1=>simp only [flCs,List.getElem_cons_zero,List.getElem?_cons_succ,List.getElem?_cons_zero,Option.some.injEq] at hj; rw [<-hj]; exact c1
 | j + 2=>simp [flCs] at hj
theorem groups_any (a:Option Addr) (l:List Fl) (c:Nat) (P:Pa) (w:World) (hl:Fls w.heap.size w a l) (hs:SmF l) (hp:P.length<=100000) :
  Calls Tryz.prog 10 #[.slice a l.length c,.string ⟨P.toArray⟩] w (GotGr w l P):=by
 have HC:=hid (tcheck_any a l c w hl hs.1 (fun x hx=>(hs.2 x hx).1) (fun x hx=>(hs.2 x hx).2))
 have HR:=hid (fun W (hb:Below w.heap.size w W)=>rulesOf_any a l c W ((hl.below hb (Nat.le_refl _)).mono hb.size) (by have:=hs.1; omega) (fun x hx=>(hs.2 x hx).1) (fun x hx=>by have:=(hs.2 x hx).2; omega))
 have HK1:=hid (fun W=>tcheck_any (some ⟨W.heap.size,0,none⟩) [⟨P,[]⟩] 1 (W.alloc (.cells #[.string ⟨P.toArray⟩,.string ⟨#[]⟩] 55)) (fls_one P W) (by simp) (fun x hx=>by simp at hx; subst hx; exact hp) (fun x hx=>by simp at hx; subst hx; simp))
 have HOK:Hid (grOk l P ↔ checkF l=0/\checkF [⟨P,[]⟩]=0):=hid Iff.rfl
 generalize checkF l=k1 at HC HOK
 generalize checkF [⟨P,[]⟩]=k2 at HK1 HOK
 generalize l.length=n at HC HR
 simp only [List.length_cons,List.length_nil,Nat.zero_add] at HK1
 clear hl hs
 by_cases h1:k1=0
 ·subst h1
  go_enter Tryz.func10,Tryz.ntmps10
  go_wp2_with fail
  (with_reducible refine HC.out.mono ?_)
  rintro e u1 ⟨rfl,hb1⟩
  have HB1:=hid hb1
  have HB2:Hid (Below w.heap.size w (u1.alloc (.cells #[.string ⟨P.toArray⟩,.string ⟨#[]⟩] 55))):=hid (hb1.alloc hb1.size _)
  have HK2:=hid (HK1.out u1)
  clear hb1 HC HK1
  by_cases h2:k2=0
  ·subst h2
   have HOK2:Hid (grOk l P):=hid (HOK.out.2 (by simp))
   go_wp2_with fail
   (with_reducible refine HK2.out.mono ?_)
   rintro e u2 ⟨rfl,hb2⟩
   have hb3:=HB2.out.trans (hb2.mono HB2.out.size)
   have HB3:=hid hb3
   have HR2:=hid (HR.out u2 hb3)
   clear hb2 hb3 HK2 HR HB2
   go_wp2_with fail
   (with_reducible refine HR2.out.mono ?_)
   rintro e u3 ⟨b,rfl,hm,hbl,hb3⟩
   have HO:=hid (ownersOf_any u3.heap.size b _ _ P u3 hm.toB (Nat.le_refl _) (ruM_sh l) (by omega))
   have HB4:=hid (HB3.out.trans (hb3.mono HB3.out.size))
   clear hm hb3 hbl HR2 HB3
   go_wp2_with fail
   (with_reducible refine HO.out.mono ?_)
   rintro e u4 ⟨ga,gc,rfl,hg,hb4⟩
   have HG:=hid (hg.mono hb4.size)
   have HB5:=hid (HB4.out.trans (hb4.mono HB4.out.size))
   clear hg hb4 HO HB4
   go_wp2_with fail
   go_ret2
   exact ⟨HB5.out,ga,_,gc,0,rfl,.inl ⟨HOK2.out,rfl,rfl,HG.out⟩⟩
  ·have HOK2:Hid (¬ grOk l P):=hid (fun h=>h2 (HOK.out.1 h).2)
   go_wp2_with fail
   (with_reducible refine HK2.out.mono ?_)
   rintro e u2 ⟨rfl,hb2⟩
   have HB3:=hid (HB2.out.trans (hb2.mono HB2.out.size))
   clear hb2 HK2 HR HB2
   go_wp2_with fail
   go_ret2
   exact ⟨HB3.out,none,0,0,6,rfl,.inr ⟨HOK2.out,by decide⟩⟩
 ·have HOK2:Hid (¬ grOk l P):=hid (fun h=>h1 (HOK.out.1 h).1)
  go_enter Tryz.func10,Tryz.ntmps10
  go_wp2_with fail
  (with_reducible refine HC.out.mono ?_)
  rintro e u1 ⟨rfl,hb1⟩
  have HB1:=hid hb1
  clear hb1 HC
  go_wp2_with fail
  go_ret2
  exact ⟨HB1.out,none,0,0,k1,rfl,.inr ⟨HOK2.out,h1⟩⟩
def fcCs (x:Fc):List Value:=[.string ⟨x.path.toArray⟩,.bool x.ho,.bool x.hn,.string ⟨x.old.toArray⟩,.string ⟨x.new.toArray⟩]
theorem layFc:Lay fcCs 5:=⟨by decide,fun o=>rfl,fun o v hv=>by
 simp only [fcCs,List.mem_cons,List.not_mem_nil,or_false] at hv
 rcases hv with rfl | rfl | rfl | rfl | rfl <;> rfl⟩
theorem infoFc:(Tryz.prog.info? 42).map (fun i=>(i.zero,i.size,i.bytes))=some (some (.agg #[.string ⟨#[]⟩,.bool false,.bool false,.string ⟨#[]⟩,.string ⟨#[]⟩]),5,56):=by kernel_rfl
theorem append_fc {base:Nat} {W:World} {v:Value} {n:Nat} {l:List Fc} (hn:n=l.length) (hown:W.ownsRow base 42 5 v n (gcs fcCs l)) (x:Fc) (hlen:(n:Int)<=1000000) (hbase:base<=W.heap.size) :
  ∃ v' W',Hid ((Builtin.append_ #[38,38] 38 #[v,.slice (some ⟨W.heap.size,0,none⟩) 1 1]).run Tryz.prog (W.alloc (.cells (fcCs x).toArray 42)) = .ok v' W')/\W'.ownsRow base 42 5 v' (n + 1) (gcs fcCs (l ++ [x]))/\(W.alloc (.cells (fcCs x).toArray 42)).grownBy W' v.ownBlock/\(v'.ownBlock=v.ownBlock\/v'.ownBlock=some (W.heap.size + 1)):=by
 obtain ⟨i0,hi,hz0,hz1,hz2⟩:=info_parts infoFc
 exact append_oneG layFc Tryz.underlying38 hi hz0 hz1 hz2 rfl hn hown x hlen (by decide) hbase
section
variable {l m:List Fl} {i k f:Nat}
theorem df_oend (hi:i < l.length) (hk:k=m.length):dfS (f + 1) (l.drop i) (m.drop k)=mkFc l[i].path (some l[i].data) none :: dfS f (l.drop (i + 1)) (m.drop k):=by
 rw [List.drop_eq_getElem_cons hi,List.drop_of_length_le (by omega:m.length<=k),dfS]
theorem df_nend (hi:i=l.length) (hk:k < m.length):dfS (f + 1) (l.drop i) (m.drop k)=mkFc m[k].path none (some m[k].data) :: dfS f (l.drop i) (m.drop (k + 1)):=by
 rw [List.drop_eq_getElem_cons hk,List.drop_of_length_le (by omega:l.length<=i),dfS]
theorem df_olt (hi:i < l.length) (hk:k < m.length) (h:Op.bytesLess l[i].path m[k].path=true):dfS (f + 1) (l.drop i) (m.drop k)=mkFc l[i].path (some l[i].data) none :: dfS f (l.drop (i + 1)) (m.drop k):=by
 have e:=List.drop_eq_getElem_cons hk
 rw [List.drop_eq_getElem_cons hi,e,dfS,if_pos h,<-e]
theorem df_nlt (hi:i < l.length) (hk:k < m.length) (h:Op.bytesLess l[i].path m[k].path=false) (h2:Op.bytesLess m[k].path l[i].path=true):dfS (f + 1) (l.drop i) (m.drop k)=mkFc m[k].path none (some m[k].data) :: dfS f (l.drop i) (m.drop (k + 1)):=by
 have e:=List.drop_eq_getElem_cons hi
 rw [List.drop_eq_getElem_cons hk,e,dfS,if_neg (by rw [h]; simp),if_pos h2,<-e]
theorem df_both (hi:i < l.length) (hk:k < m.length) (h:Op.bytesLess l[i].path m[k].path=false) (h2:Op.bytesLess m[k].path l[i].path=false):dfS (f + 1) (l.drop i) (m.drop k)=if l[i].data=m[k].data then dfS f (l.drop (i + 1)) (m.drop (k + 1)) else mkFc l[i].path (some l[i].data) (some m[k].data) :: dfS f (l.drop (i + 1)) (m.drop (k + 1)):=by
 rw [List.drop_eq_getElem_cons hk,List.drop_eq_getElem_cons hi,dfS,if_neg (by rw [h]; simp),if_neg (by rw [h2]; simp)]
theorem df_nil (hi:l.length<=i) (hk:m.length<=k):dfS f (l.drop i) (m.drop k)=[]:=by
 rw [List.drop_of_length_le hi,List.drop_of_length_le hk]
 cases f <;> rfl
end
def dfL (l m:List Fl):List Fc:=dfS (l.length + m.length) l m
theorem df_len:∀ (n:Nat) (l m:List Fl),(dfS n l m).length<=n
 | 0,_,_=>by simp [dfS]
 | n + 1,[],[]=>by simp [dfS]
 | n + 1,x :: l,[]=>by rw [dfS]; have:=df_len n l []; simp; omega
 | n + 1,[],y :: m=>by rw [dfS]; have:=df_len n [] m; simp; omega
 | n + 1,x :: l,y :: m=>by
  rw [dfS]
  split
  ·have:=df_len n l (y :: m); simp; omega
  ·split
   ·have:=df_len n (x :: l) m; simp; omega
   ·have:=df_len n l m
    split
    ·omega
    ·simp; omega
structure DfI {α:Type} (f:α->List Value) (z:Nat) (t:TypeId) (w:World) (out:List α) (v:Value) (W:World):Prop where
 ow:W.ownsRow w.heap.size t z v out.length (gcs f out)
 be:Below w.heap.size w W
theorem DfI.below {α:Type} {f:α->List Value} {z:Nat} {t:TypeId} {w:World} {out:List α} {v:Value} {W W':World} (h:DfI f z t w out v W) (hb:Below W.heap.size W W'):DfI f z t w out v W':=
 ⟨own_below h.ow hb,h.be.trans (hb.mono h.be.size)⟩
theorem DfI.fc {w W:World} {out:List Fc} {v:Value} (h:DfI fcCs 5 42 w out v W) (x:Fc) (hn:(out.length:Int)<=1000000):∃ v' W',Hid ((Builtin.append_ #[38,38] 38 #[v,.slice (some ⟨W.heap.size,0,none⟩) 1 1]).run Tryz.prog (W.alloc (.cells (fcCs x).toArray 42)) = .ok v' W')/\DfI fcCs 5 42 w (out ++ [x]) v' W':=by
 obtain ⟨v',W',h1,h2,h3,h4⟩:=append_fc rfl h.ow x hn h.be.size
 refine ⟨v',W',h1,⟨by rw [List.length_append]; exact h2,(h.be.alloc h.be.size _).grown h3 (by have:=h.be.size; simp; omega) (fun k e=>(h.ow.lt k e).1)⟩⟩
theorem DfI.st {w W:World} {out:List Pa} {v:Value} (h:DfI stCs 1 9 w out v W) (x:Pa) (hn:(out.length:Int)<=1000000):∃ v' W',Hid ((Builtin.append_ #[44,44] 44 #[v,.slice (some ⟨W.heap.size,0,none⟩) 1 1]).run Tryz.prog (W.alloc (.cells (stCs x).toArray 9)) = .ok v' W')/\DfI stCs 1 9 w (out ++ [x]) v' W':=by
 obtain ⟨v',W',h1,h2,h3,h4⟩:=append_st rfl h.ow x hn h.be.size
 refine ⟨v',W',h1,⟨by rw [List.length_append]; exact h2,(h.be.alloc h.be.size _).grown h3 (by have:=h.be.size; simp; omega) (fun k e=>(h.ow.lt k e).1)⟩⟩
theorem DfI.fl {w W:World} {out:List Fl} {v:Value} (h:DfI flCs 2 55 w out v W) (x:Fl) (hn:(out.length:Int)<=1000000):∃ v' W',Hid ((Builtin.append_ #[23,23] 23 #[v,.slice (some ⟨W.heap.size,0,none⟩) 1 1]).run Tryz.prog (W.alloc (.cells (flCs x).toArray 55)) = .ok v' W')/\DfI flCs 2 55 w (out ++ [x]) v' W':=by
 obtain ⟨v',W',h1,h2,h3,h4⟩:=append_fl rfl h.ow x hn h.be.size
 refine ⟨v',W',h1,⟨by rw [List.length_append]; exact h2,(h.be.alloc h.be.size _).grown h3 (by have:=h.be.size; simp; omega) (fun k e=>(h.ow.lt k e).1)⟩⟩
theorem changed_any (a:Option Addr) (l:List Fl) (c:Nat) (a2:Option Addr) (m:List Fl) (c2:Nat) (w:World) (hl:Fls w.heap.size w a l) (hm:Fls w.heap.size w a2 m) (hn:l.length<=1000) (hn2:m.length<=1000) :
  Calls Tryz.prog 41 #[.slice a l.length c,.slice a2 m.length c2] w fun e w'=>∃ va vc,e = .returned (.slice va (dfL l m).length vc)/\w'.ownsRow w.heap.size 9 1 (.slice va (dfL l m).length vc) (dfL l m).length (gcs stCs ((dfL l m).map (·.path)))/\Below w.heap.size w w':=by
 have HL:=hid hl
 have HM:=hid hm
 obtain ⟨T,hT⟩:∃ T,T=dfL l m:=⟨_,rfl⟩
 have HTL:Hid (T.length<=2000):=hid (by rw [hT]; have:=df_len (l.length + m.length) l m; unfold dfL; omega)
 obtain ⟨n,hnn⟩:∃ n,n=l.length:=⟨_,rfl⟩
 obtain ⟨q,hqq⟩:∃ q,q=m.length:=⟨_,rfl⟩
 have HN:=hid hnn
 have HQ:=hid hqq
 rw [<-hnn,<-hqq,<-hT]
 have HS0:Hid (T=[] ++ dfS (n + q) (l.drop 0) (m.drop 0)):=hid (by rw [hT,hnn,hqq]; rfl)
 have hn3:n<=1000:=by omega
 have hq3:q<=1000:=by omega
 clear hl hm hT hnn hqq hn hn2
 go_enter Tryz.func41,Tryz.ntmps41
 go_wp2_with fail
 go_loopw [6,7,5] (fun i k v wr=>∃ (x y f:Nat) (out:List Fc),i = .int .i64 (x:Int)/\k = .int .i64 (y:Int)/\x<=n/\y<=q/\(n - x) + (q - y)<=f/\Hid (T=out ++ dfS f (l.drop x) (m.drop y))/\Hid (DfI stCs 1 9 w (out.map (·.path)) v wr)) (fun i k _ _=>(n - (intOf i).toNat) + (q - (intOf k).toNat))
 case atStart=>exact ⟨0,0,n + q,[],rfl,rfl,by omega,by omega,by omega,HS0,hid ⟨World.ownsRow_nil _ _ _ _,Below.refl _ _⟩⟩
 case round=>
  clear HS0
  obtain ⟨x,y,f,out,rfl,rfl,hx,hy,hf,HS,HI⟩:=hrel
  obtain ⟨va,vc,hv,hvc⟩:=ownsRow_sliceN HI.out.ow
  obtain ⟨ol,hol⟩:∃ ol,ol=((out.map (·.path))).length:=⟨_,rfl⟩
  rw [<-hol] at hv hvc
  have HOL:=hid hol
  clear hol
  subst hv
  have hxw:IntKind.i64.wrap ((x:Int) + 1)=(x:Int) + 1:=wrapA (by omega) (by omega)
  have hyw:IntKind.i64.wrap ((y:Int) + 1)=(y:Int) + 1:=wrapA (by omega) (by omega)
  by_cases hxn:x < n
  ·have hxi:(x:Int) < (n:Int):=by omega
   have hxl:x < l.length:=by rw [<-HN.out]; exact hxn
   obtain ⟨g,rfl⟩:∃ g,f=g + 1:=⟨f - 1,by omega⟩
   obtain ⟨b0,o0,haa,hb0,q0,q1⟩:=fl_cells (HL.out.below HI.out.be (Nat.le_refl _)) hxl
   have hzw:=HI.out.be.size
   have xe0:((x:Int) == (n:Int))=false:=by simp; omega
   by_cases hyq:y < q
   ·have hyi:(y:Int) < (q:Int):=by omega
    have hyl:y < m.length:=by rw [<-HQ.out]; exact hyq
    obtain ⟨b1,o1,haa2,hb1,r0,r1⟩:=fl_cells (HM.out.below HI.out.be (Nat.le_refl _)) hyl
    have ye0:((y:Int) == (q:Int))=false:=by simp; omega
    have D1:=hid (df_olt (f:=g) hxl hyl)
    have D2:=hid (df_nlt (f:=g) hxl hyl)
    have D3:=hid (df_both (f:=g) hxl hyl)
    generalize l[x]=p at q0 q1 D1 D2 D3
    generalize m[y]=r at r0 r1 D1 D2 D3
    obtain ⟨P,D⟩:=p
    obtain ⟨P2,E⟩:=r
    simp only at q0 q1 r0 r1 D1 D2 D3
    subst haa haa2
    have f0:=cell_regrown q0
    have f1:=cell_regrown r0
    clear hxl hyl
    cases h1:Op.bytesLess P P2 with
    | true=>
     have HS2:Hid (T=(out ++ [mkFc P (some D) none]) ++ dfS g (l.drop (x + 1)) (m.drop y)):=hid (by rw [HS.out,D1.out h1,List.append_assoc]; rfl)
     clear D1 D2 D3 HS
     go_wp2_with fail
     refine wp_region_quiet_below (by kernel_rfl) (by kernel_rfl) ?_
     repeat (any_goals (first | go_big_quiet_step (fail) | quiet_step (fail)))
     refine wpQuiet_nil ?_
     intro w2 hw2
     have hbq:=below_rg hw2
     have HI2:=hid (HI.out.below hbq)
     have q0:=(hbq.cell (p:=⟨b0,o0 + x * 2,none⟩) (by simp only; omega)).trans q0
     have q1:=(hbq.cell (p:=⟨b0,o0 + x * 2 + 1,none⟩) (by simp only; omega)).trans q1
     clear f0 f1 hw2 hbq HI r0 r1 h1
     obtain ⟨v',W',hrun,hi'⟩:=HI2.out.st P (by have:=HTL.out; rw [HS2.out] at this; simp at this; simp; omega)
     simp only [stCs] at hrun
     have HRUN:=hid hrun.out
     have HI9:Hid (DfI stCs 1 9 w ((out ++ [mkFc P (some D) none]).map (·.path)) v' W'):=hid (by rw [List.map_append]; exact hi')
     clear hrun hi' HI2
     go_wp2_with (at_builtin; refine Lib.wpList_append_run _ rfl _ _ _ _ rfl _ _ rfl rfl _ _ HRUN.out ?_)
     go_roundw
     case rel=>exact ⟨x + 1,y,g,_,by go_num,rfl,by omega,by omega,by omega,HS2,HI9⟩
     case measure=>simp [intOf] <;> omega
    | false=>
     clear D1
     cases h2:Op.bytesLess P2 P with
     | true=>
      have HS2:Hid (T=(out ++ [mkFc P2 none (some E)]) ++ dfS g (l.drop x) (m.drop (y + 1))):=hid (by rw [HS.out,D2.out h1 h2,List.append_assoc]; rfl)
      clear D2 D3 HS
      go_wp2_with fail
      refine wp_region_quiet_below (by kernel_rfl) (by kernel_rfl) ?_
      repeat (any_goals (first | go_big_quiet_step (fail) | quiet_step (fail)))
      refine wpQuiet_nil ?_
      intro w2 hw2
      have hbq:=below_rg hw2
      have HI2:=hid (HI.out.below hbq)
      have q0:=(hbq.cell (p:=⟨b0,o0 + x * 2,none⟩) (by simp only; omega)).trans q0
      have r0:=(hbq.cell (p:=⟨b1,o1 + y * 2,none⟩) (by simp only; omega)).trans r0
      have r1:=(hbq.cell (p:=⟨b1,o1 + y * 2 + 1,none⟩) (by simp only; omega)).trans r1
      have f0:=cell_regrown q0
      have f1:=cell_regrown r0
      have hz2:=hbq.size
      clear hw2 hbq HI q1
      go_wp2_with fail
      refine wp_region_quiet_below (by kernel_rfl) (by kernel_rfl) ?_
      repeat (any_goals (first | go_big_quiet_step (fail) | quiet_step (fail)))
      refine wpQuiet_nil ?_
      intro w3 hw3
      have hbq:=below_rg hw3
      have HI3:=hid (HI2.out.below hbq)
      have r0:=(hbq.cell (p:=⟨b1,o1 + y * 2,none⟩) (by simp only; omega)).trans r0
      have r1:=(hbq.cell (p:=⟨b1,o1 + y * 2 + 1,none⟩) (by simp only; omega)).trans r1
      clear f0 f1 hw3 hbq HI2 q0 h1 h2
      obtain ⟨v',W',hrun,hi'⟩:=HI3.out.st P2 (by have:=HTL.out; rw [HS2.out] at this; simp at this; simp; omega)
      simp only [stCs] at hrun
      have HRUN:=hid hrun.out
      have HI9:Hid (DfI stCs 1 9 w ((out ++ [mkFc P2 none (some E)]).map (·.path)) v' W'):=hid (by rw [List.map_append]; exact hi')
      clear hrun hi' HI3
      go_wp2_with (at_builtin; refine Lib.wpList_append_run _ rfl _ _ _ _ rfl _ _ rfl rfl _ _ HRUN.out ?_)
      go_roundw
      case rel=>exact ⟨x,y + 1,g,_,rfl,by go_num,by omega,by omega,by omega,HS2,HI9⟩
      case measure=>simp [intOf] <;> omega
     | false=>
      have HS1:=hid (HS.out.trans (congrArg (out ++ ·) (D3.out h1 h2)))
      clear D2 D3 HS
      go_wp2_with fail
      refine wp_region_quiet_below (by kernel_rfl) (by kernel_rfl) ?_
      repeat (any_goals (first | go_big_quiet_step (fail) | quiet_step (fail)))
      refine wpQuiet_nil ?_
      intro w2 hw2
      have hbq:=below_rg hw2
      have HI2:=hid (HI.out.below hbq)
      have q0:=(hbq.cell (p:=⟨b0,o0 + x * 2,none⟩) (by simp only; omega)).trans q0
      have q1:=(hbq.cell (p:=⟨b0,o0 + x * 2 + 1,none⟩) (by simp only; omega)).trans q1
      have r0:=(hbq.cell (p:=⟨b1,o1 + y * 2,none⟩) (by simp only; omega)).trans r0
      have r1:=(hbq.cell (p:=⟨b1,o1 + y * 2 + 1,none⟩) (by simp only; omega)).trans r1
      have f0:=cell_regrown q0
      have f1:=cell_regrown r0
      have hz2:=hbq.size
      clear hw2 hbq HI
      go_wp2_with fail
      refine wp_region_quiet_below (by kernel_rfl) (by kernel_rfl) ?_
      repeat (any_goals (first | go_big_quiet_step (fail) | quiet_step (fail)))
      refine wpQuiet_nil ?_
      intro w3 hw3
      have hbq:=below_rg hw3
      have HI3:=hid (HI2.out.below hbq)
      have q0:=(hbq.cell (p:=⟨b0,o0 + x * 2,none⟩) (by simp only; omega)).trans q0
      have q1:=(hbq.cell (p:=⟨b0,o0 + x * 2 + 1,none⟩) (by simp only; omega)).trans q1
      have r1:=(hbq.cell (p:=⟨b1,o1 + y * 2 + 1,none⟩) (by simp only; omega)).trans r1
      have f0:=cell_regrown q1
      have f1:=cell_regrown r1
      have hz3:=hbq.size
      clear hw3 hbq HI2 r0 h1 h2
      by_cases he:D=E
      ·have hne:(D == E)=true:=by simpa using he
       have HS2:Hid (T=out ++ dfS g (l.drop (x + 1)) (m.drop (y + 1))):=hid (HS1.out.trans (by simp only [if_pos he]))
       clear HS1 he
       go_wp2_with fail
       refine wp_region_quiet_below (by kernel_rfl) (by kernel_rfl) ?_
       repeat (any_goals (first | go_big_quiet_step (fail) | quiet_step (fail)))
       refine wpQuiet_nil ?_
       intro w4 hw4
       have hbq:=below_rg hw4
       have HI4:=hid (HI3.out.below hbq)
       clear f0 f1 hw4 hbq HI3 q0 q1 r1 hne
       go_wp2_with fail
       go_roundw
       case rel=>exact ⟨x + 1,y + 1,g,out,by go_num,by go_num,by omega,by omega,by omega,HS2,HI4⟩
       case measure=>simp [intOf] <;> omega
      ·have hne:(D == E)=false:=by simpa using he
       have HS2:Hid (T=(out ++ [mkFc P (some D) (some E)]) ++ dfS g (l.drop (x + 1)) (m.drop (y + 1))):=hid (HS1.out.trans (by simp only [if_neg he]; rw [List.append_assoc]; rfl))
       clear HS1 he
       go_wp2_with fail
       refine wp_region_quiet_below (by kernel_rfl) (by kernel_rfl) ?_
       repeat (any_goals (first | go_big_quiet_step (fail) | quiet_step (fail)))
       refine wpQuiet_nil ?_
       intro w4 hw4
       have hbq:=below_rg hw4
       have HI4:=hid (HI3.out.below hbq)
       have q0:=(hbq.cell (p:=⟨b0,o0 + x * 2,none⟩) (by simp only; omega)).trans q0
       have q1:=(hbq.cell (p:=⟨b0,o0 + x * 2 + 1,none⟩) (by simp only; omega)).trans q1
       have r1:=(hbq.cell (p:=⟨b1,o1 + y * 2 + 1,none⟩) (by simp only; omega)).trans r1
       clear f0 f1 hw4 hbq HI3 hne
       obtain ⟨v',W',hrun,hi'⟩:=HI4.out.st P (by have:=HTL.out; rw [HS2.out] at this; simp at this; simp; omega)
       simp only [stCs] at hrun
       have HRUN:=hid hrun.out
       have HI9:Hid (DfI stCs 1 9 w ((out ++ [mkFc P (some D) (some E)]).map (·.path)) v' W'):=hid (by rw [List.map_append]; exact hi')
       clear hrun hi' HI4
       go_wp2_with (at_builtin; refine Lib.wpList_append_run _ rfl _ _ _ _ rfl _ _ rfl rfl _ _ HRUN.out ?_)
       go_roundw
       case rel=>exact ⟨x + 1,y + 1,g,_,by go_num,by go_num,by omega,by omega,by omega,HS2,HI9⟩
       case measure=>simp [intOf] <;> omega
   ·have hye:y=q:=by omega
    subst hye
    have ye1:((y:Int) == (y:Int))=true:=by simp
    have D1:=hid (df_oend (f:=g) hxl HQ.out)
    generalize l[x]=p at q0 q1 D1
    obtain ⟨P,D⟩:=p
    simp only at q0 q1 D1
    subst haa
    have HS2:Hid (T=(out ++ [mkFc P (some D) none]) ++ dfS g (l.drop (x + 1)) (m.drop y)):=hid (by rw [HS.out,D1.out,List.append_assoc]; rfl)
    clear D1 HS hxl
    go_wp2_with fail
    refine wp_region_quiet_below (by kernel_rfl) (by kernel_rfl) ?_
    repeat (any_goals (first | go_big_quiet_step (fail) | quiet_step (fail)))
    refine wpQuiet_nil ?_
    intro w2 hw2
    have hbq:=below_rg hw2
    have HI2:=hid (HI.out.below hbq)
    have q0:=(hbq.cell (p:=⟨b0,o0 + x * 2,none⟩) (by simp only; omega)).trans q0
    have q1:=(hbq.cell (p:=⟨b0,o0 + x * 2 + 1,none⟩) (by simp only; omega)).trans q1
    clear hw2 hbq HI
    obtain ⟨v',W',hrun,hi'⟩:=HI2.out.st P (by have:=HTL.out; rw [HS2.out] at this; simp at this; simp; omega)
    simp only [stCs] at hrun
    have HRUN:=hid hrun.out
    have HI9:Hid (DfI stCs 1 9 w ((out ++ [mkFc P (some D) none]).map (·.path)) v' W'):=hid (by rw [List.map_append]; exact hi')
    clear hrun hi' HI2
    go_wp2_with (at_builtin; refine Lib.wpList_append_run _ rfl _ _ _ _ rfl _ _ rfl rfl _ _ HRUN.out ?_)
    go_roundw
    case rel=>exact ⟨x + 1,y,g,_,by go_num,rfl,by omega,by omega,by omega,HS2,HI9⟩
    case measure=>simp [intOf] <;> omega
  ·have hxe:x=n:=by omega
   subst hxe
   have hxi:¬ (x:Int) < (x:Int):=by omega
   have xe1:((x:Int) == (x:Int))=true:=by simp
   by_cases hyq:y < q
   ·have hyi:(y:Int) < (q:Int):=by omega
    have hyl:y < m.length:=by rw [<-HQ.out]; exact hyq
    obtain ⟨g,rfl⟩:∃ g,f=g + 1:=⟨f - 1,by omega⟩
    obtain ⟨b1,o1,haa2,hb1,r0,r1⟩:=fl_cells (HM.out.below HI.out.be (Nat.le_refl _)) hyl
    have hzw:=HI.out.be.size
    have ye0:((y:Int) == (q:Int))=false:=by simp; omega
    have D2:=hid (df_nend (f:=g) HN.out hyl)
    generalize m[y]=r at r0 r1 D2
    obtain ⟨P2,E⟩:=r
    simp only at r0 r1 D2
    subst haa2
    have HS2:Hid (T=(out ++ [mkFc P2 none (some E)]) ++ dfS g (l.drop x) (m.drop (y + 1))):=hid (by rw [HS.out,D2.out,List.append_assoc]; rfl)
    clear D2 HS hyl
    go_wp2_with fail
    refine wp_region_quiet_below (by kernel_rfl) (by kernel_rfl) ?_
    repeat (any_goals (first | go_big_quiet_step (fail) | quiet_step (fail)))
    refine wpQuiet_nil ?_
    intro w2 hw2
    have hbq:=below_rg hw2
    have HI2:=hid (HI.out.below hbq)
    have r0:=(hbq.cell (p:=⟨b1,o1 + y * 2,none⟩) (by simp only; omega)).trans r0
    have r1:=(hbq.cell (p:=⟨b1,o1 + y * 2 + 1,none⟩) (by simp only; omega)).trans r1
    have hz2:=hbq.size
    clear hw2 hbq HI
    go_wp2_with fail
    refine wp_region_quiet_below (by kernel_rfl) (by kernel_rfl) ?_
    repeat (any_goals (first | go_big_quiet_step (fail) | quiet_step (fail)))
    refine wpQuiet_nil ?_
    intro w3 hw3
    have hbq:=below_rg hw3
    have HI3:=hid (HI2.out.below hbq)
    have r0:=(hbq.cell (p:=⟨b1,o1 + y * 2,none⟩) (by simp only; omega)).trans r0
    have r1:=(hbq.cell (p:=⟨b1,o1 + y * 2 + 1,none⟩) (by simp only; omega)).trans r1
    clear hw3 hbq HI2
    obtain ⟨v',W',hrun,hi'⟩:=HI3.out.st P2 (by have:=HTL.out; rw [HS2.out] at this; simp at this; simp; omega)
    simp only [stCs] at hrun
    have HRUN:=hid hrun.out
    have HI9:Hid (DfI stCs 1 9 w ((out ++ [mkFc P2 none (some E)]).map (·.path)) v' W'):=hid (by rw [List.map_append]; exact hi')
    clear hrun hi' HI3
    go_wp2_with (at_builtin; refine Lib.wpList_append_run _ rfl _ _ _ _ rfl _ _ rfl rfl _ _ HRUN.out ?_)
    go_roundw
    case rel=>exact ⟨x,y + 1,g,_,rfl,by go_num,by omega,by omega,by omega,HS2,HI9⟩
    case measure=>simp [intOf] <;> omega
   ·have hye:y=q:=by omega
    subst hye
    have hyi:¬ (y:Int) < (y:Int):=by omega
    have hTo:T=out:=by rw [HS.out,df_nil (by have:=HN.out; omega) (by have:=HQ.out; omega),List.append_nil]
    subst hTo
    have HO:=hid HI.out
    clear HS HI
    go_wp2_with fail
    go_ret
    exact ⟨va,vc,by rw [HOL.out]; simp,by have:=HO.out.ow; rw [HOL.out] at this; simpa using this,HO.out.be⟩
theorem difference_any (a:Option Addr) (l:List Fl) (c:Nat) (a2:Option Addr) (m:List Fl) (c2:Nat) (w:World) (hl:Fls w.heap.size w a l) (hm:Fls w.heap.size w a2 m) (hn:l.length<=1000) (hn2:m.length<=1000) :
  Calls Tryz.prog 40 #[.slice a l.length c,.slice a2 m.length c2] w fun e w'=>∃ va vc,e = .returned (.slice va (dfL l m).length vc)/\w'.ownsRow w.heap.size 42 5 (.slice va (dfL l m).length vc) (dfL l m).length (gcs fcCs (dfL l m))/\Below w.heap.size w w':=by
 have HL:=hid hl
 have HM:=hid hm
 obtain ⟨T,hT⟩:∃ T,T=dfL l m:=⟨_,rfl⟩
 have HTL:Hid (T.length<=2000):=hid (by rw [hT]; have:=df_len (l.length + m.length) l m; unfold dfL; omega)
 obtain ⟨n,hnn⟩:∃ n,n=l.length:=⟨_,rfl⟩
 obtain ⟨q,hqq⟩:∃ q,q=m.length:=⟨_,rfl⟩
 have HN:=hid hnn
 have HQ:=hid hqq
 rw [<-hnn,<-hqq,<-hT]
 have HS0:Hid (T=[] ++ dfS (n + q) (l.drop 0) (m.drop 0)):=hid (by rw [hT,hnn,hqq]; rfl)
 have hn3:n<=1000:=by omega
 have hq3:q<=1000:=by omega
 clear hl hm hT hnn hqq hn hn2
 go_enter Tryz.func40,Tryz.ntmps40
 go_wp2_with fail
 go_loopw [6,7,5] (fun i k v wr=>∃ (x y f:Nat) (out:List Fc),i = .int .i64 (x:Int)/\k = .int .i64 (y:Int)/\x<=n/\y<=q/\(n - x) + (q - y)<=f/\Hid (T=out ++ dfS f (l.drop x) (m.drop y))/\Hid (DfI fcCs 5 42 w out v wr)) (fun i k _ _=>(n - (intOf i).toNat) + (q - (intOf k).toNat))
 case atStart=>exact ⟨0,0,n + q,[],rfl,rfl,by omega,by omega,by omega,HS0,hid ⟨World.ownsRow_nil _ _ _ _,Below.refl _ _⟩⟩
 case round=>
  clear HS0
  obtain ⟨x,y,f,out,rfl,rfl,hx,hy,hf,HS,HI⟩:=hrel
  obtain ⟨va,vc,hv,hvc⟩:=ownsRow_sliceN HI.out.ow
  obtain ⟨ol,hol⟩:∃ ol,ol=(out).length:=⟨_,rfl⟩
  rw [<-hol] at hv hvc
  have HOL:=hid hol
  clear hol
  subst hv
  have hxw:IntKind.i64.wrap ((x:Int) + 1)=(x:Int) + 1:=wrapA (by omega) (by omega)
  have hyw:IntKind.i64.wrap ((y:Int) + 1)=(y:Int) + 1:=wrapA (by omega) (by omega)
  by_cases hxn:x < n
  ·have hxi:(x:Int) < (n:Int):=by omega
   have hxl:x < l.length:=by rw [<-HN.out]; exact hxn
   obtain ⟨g,rfl⟩:∃ g,f=g + 1:=⟨f - 1,by omega⟩
   obtain ⟨b0,o0,haa,hb0,q0,q1⟩:=fl_cells (HL.out.below HI.out.be (Nat.le_refl _)) hxl
   have hzw:=HI.out.be.size
   have xe0:((x:Int) == (n:Int))=false:=by simp; omega
   by_cases hyq:y < q
   ·have hyi:(y:Int) < (q:Int):=by omega
    have hyl:y < m.length:=by rw [<-HQ.out]; exact hyq
    obtain ⟨b1,o1,haa2,hb1,r0,r1⟩:=fl_cells (HM.out.below HI.out.be (Nat.le_refl _)) hyl
    have ye0:((y:Int) == (q:Int))=false:=by simp; omega
    have D1:=hid (df_olt (f:=g) hxl hyl)
    have D2:=hid (df_nlt (f:=g) hxl hyl)
    have D3:=hid (df_both (f:=g) hxl hyl)
    generalize l[x]=p at q0 q1 D1 D2 D3
    generalize m[y]=r at r0 r1 D1 D2 D3
    obtain ⟨P,D⟩:=p
    obtain ⟨P2,E⟩:=r
    simp only at q0 q1 r0 r1 D1 D2 D3
    subst haa haa2
    have f0:=cell_regrown q0
    have f1:=cell_regrown r0
    clear hxl hyl
    cases h1:Op.bytesLess P P2 with
    | true=>
     have HS2:Hid (T=(out ++ [mkFc P (some D) none]) ++ dfS g (l.drop (x + 1)) (m.drop y)):=hid (by rw [HS.out,D1.out h1,List.append_assoc]; rfl)
     clear D1 D2 D3 HS
     go_wp2_with fail
     refine wp_region_quiet_below (by kernel_rfl) (by kernel_rfl) ?_
     repeat (any_goals (first | go_big_quiet_step (fail) | quiet_step (fail)))
     refine wpQuiet_nil ?_
     intro w2 hw2
     have hbq:=below_rg hw2
     have HI2:=hid (HI.out.below hbq)
     have q0:=(hbq.cell (p:=⟨b0,o0 + x * 2,none⟩) (by simp only; omega)).trans q0
     have q1:=(hbq.cell (p:=⟨b0,o0 + x * 2 + 1,none⟩) (by simp only; omega)).trans q1
     clear f0 f1 hw2 hbq HI r0 r1 h1
     have hS:w2.drew.cell? ⟨b0,o0 + x * 2,none⟩=some (.string ⟨P.toArray⟩)/\w2.drew.cell? ⟨b0,o0 + x * 2 + 1,none⟩=some (.string ⟨D.toArray⟩)/\True:=⟨q0,q1,trivial⟩
     obtain ⟨v',W',hrun,hi'⟩:=(HI2.out.below (Below.refl _ _).drew).fc (mkFc P (some D) none) (by have:=HTL.out; rw [HS2.out] at this; simp at this; omega)
     simp only [fcCs,mkFc,Option.isSome_some,Option.getD_some,Option.isSome_none,Option.getD_none] at hrun
     have HRUN:=hid hrun.out
     have HI9:=hid hi'
     clear hrun hi' HI2
     go_wp2_with fail
     refine wp_region_L (S:=(fun Wx=>Wx.cell? ⟨b0,o0 + x * 2,none⟩=some (.string ⟨P.toArray⟩)/\Wx.cell? ⟨b0,o0 + x * 2 + 1,none⟩=some (.string ⟨D.toArray⟩)/\True)) [12] (by kernel_rfl) hS (fun hHeld=>?_)
     refine anyL_take0 (i:=0) (v:=?vv107) rfl (by kernel_rfl) (by kernel_rfl) (by kernel_rfl) (by kernel_rfl) (fun _ _ _ h=>h) (Or.inl ⟨by rfl,?hy107⟩) (by assumption) ?rest107
     case hy107=>(intro wx hSw; go_simp; try (with_reducible rfl))
     simp only [Act.put,zA,zC,zD,zE,zF]
     refine anyL_take (i:=1) (v:=?vv108) rfl (by kernel_rfl) (by kernel_rfl) (by kernel_rfl) (by kernel_rfl) (fun _ _ _ h=>h) (Or.inl ⟨by rfl,?hy108⟩) (by assumption) ?rest108
     case hy108=>(intro wx hSw; (try dsimp only at hSw); go_simp; try (with_reducible rfl))
     simp only [Act.put,zA,zB,zC,zD,zE,zF]
     refine anyL_take (i:=2) (v:=?vv109) rfl (by kernel_rfl) (by kernel_rfl) (by kernel_rfl) (by kernel_rfl) (fun _ _ _ h=>h) (Or.inl ⟨by rfl,?hy109⟩) (by assumption) ?rest109
     case hy109=>(intro wx hSw; (try dsimp only at hSw); go_simp; try (with_reducible rfl))
     simp only [Act.put,zA,zB,zC,zD,zE,zF]
     refine anyL_take (i:=3) (v:=?vv110) rfl (by kernel_rfl) (by kernel_rfl) (by kernel_rfl) (by kernel_rfl) (fun _ _ _ h=>h) (Or.inl ⟨by rfl,?hy110⟩) (by assumption) ?rest110
     case hy110=>(intro wx hSw; (try dsimp only at hSw); go_simp; try (with_reducible rfl))
     simp only [Act.put,zA,zB,zC,zD,zE,zF]
     refine anyL_take (i:=4) (v:=?vv111) rfl (by kernel_rfl) (by kernel_rfl) (by kernel_rfl) (by kernel_rfl) (fun _ _ _ h=>h) (Or.inl ⟨by rfl,?hy111⟩) (by assumption) ?rest111
     case hy111=>(intro wx hSw; (try dsimp only at hSw); go_simp; try (with_reducible rfl))
     simp only [Act.put,zA,zB,zC,zD,zE,zF]
     refine anyL_take (i:=5) (v:=?vv112) rfl (by kernel_rfl) (by kernel_rfl) (by kernel_rfl) (by kernel_rfl) (fun _ _ _ h=>h) (Or.inl ⟨by rfl,?hy112⟩) (by assumption) ?rest112
     case hy112=>(intro wx hSw; (try dsimp only at hSw); go_simp; try (with_reducible rfl))
     simp only [Act.put,zA,zB,zC,zD,zE,zF]
     refine anyL_take (i:=6) (v:=?vv113) rfl (by kernel_rfl) (by kernel_rfl) (by kernel_rfl) (by kernel_rfl) (fun _ _ _ h=>h) (Or.inl ⟨by rfl,?hy113⟩) (by assumption) ?rest113
     case hy113=>(intro wx hSw; (try dsimp only at hSw); go_simp; try (with_reducible rfl))
     simp only [Act.put,zA,zB,zC,zD,zE,zF]
     refine anyL_take (i:=7) (v:=?vv114) rfl (by kernel_rfl) (by kernel_rfl) (by kernel_rfl) (by kernel_rfl) (fun _ _ _ h=>h) (Or.inl ⟨by rfl,?hy114⟩) (by assumption) ?rest114
     case hy114=>(intro wx hSw; (try dsimp only at hSw); go_simp; try (with_reducible rfl))
     simp only [Act.put,zA,zB,zC,zD,zE,zF]
     refine anyL_take (i:=8) (v:=?vv115) rfl (by kernel_rfl) (by kernel_rfl) (by kernel_rfl) (by kernel_rfl) (fun _ _ _ h=>h) (Or.inl ⟨by rfl,?hy115⟩) (by assumption) ?rest115
     case hy115=>(intro wx hSw; (try dsimp only at hSw); go_simp; try (with_reducible rfl))
     simp only [Act.put,zA,zB,zC,zD,zE,zF]
     refine anyL_take (i:=9) (v:=?vv116) rfl (by kernel_rfl) (by kernel_rfl) (by kernel_rfl) (by kernel_rfl) (fun _ _ _ h=>h) (Or.inl ⟨by rfl,?hy116⟩) (by assumption) ?rest116
     case hy116=>(intro wx hSw; (try dsimp only at hSw); go_simp; try (with_reducible rfl))
     simp only [Act.put,zA,zB,zC,zD,zE,zF]
     refine anyL_take (i:=10) (v:=?vv117) rfl (by kernel_rfl) (by kernel_rfl) (by kernel_rfl) (by kernel_rfl) (fun _ _ _ h=>h) (Or.inl ⟨by rfl,?hy117⟩) (by assumption) ?rest117
     case hy117=>(intro wx hSw; (try dsimp only at hSw); go_simp; try (with_reducible rfl))
     simp only [Act.put,zA,zB,zC,zD,zE,zF]
     refine anyL_take (i:=11) (v:=?vv118) rfl (by kernel_rfl) (by kernel_rfl) (by kernel_rfl) (by kernel_rfl) (fun _ _ _ h=>h) (Or.inl ⟨by rfl,?hy118⟩) (by assumption) ?rest118
     case hy118=>(intro wx hSw; (try dsimp only at hSw); go_simp; try (with_reducible rfl))
     simp only [Act.put,zA,zB,zC,zD,zE,zF]
     refine anyL_one (i:=12) (by kernel_rfl) rfl (fun K hK=>?_)
     go_simp
     refine hK.out _ _ ((fun h=>absurd h (by decide))) (fun hHeld=>?_)
     clear hK K
     refine anyL_one (i:=13) (by kernel_rfl) rfl (fun K hK=>?_)
     refine step_append_run (by rfl) (.tmp 76) (.tmp 88) _ _ (by rfl) _ _ (by rfl) (by rfl) _ _ HRUN.out ?_
     refine hK.out _ _ ((fun h=>absurd h (by decide))) (fun hHeld=>?_)
     clear hK K
     refine anyL_one (i:=14) (by kernel_rfl) rfl (fun K hK=>?_)
     go_simp
     refine hK.out _ _ ((fun h=>absurd h (by decide))) (fun hHeld=>?_)
     clear hK K
     refine anyL_done (by kernel_rfl) ?_ _
     go_wp2_with fail
     go_roundw
     case rel=>exact ⟨x + 1,y,g,_,by go_num,rfl,by omega,by omega,by omega,HS2,HI9⟩
     case measure=>simp [intOf] <;> omega
    | false=>
     clear D1
     cases h2:Op.bytesLess P2 P with
     | true=>
      have HS2:Hid (T=(out ++ [mkFc P2 none (some E)]) ++ dfS g (l.drop x) (m.drop (y + 1))):=hid (by rw [HS.out,D2.out h1 h2,List.append_assoc]; rfl)
      clear D2 D3 HS
      go_wp2_with fail
      refine wp_region_quiet_below (by kernel_rfl) (by kernel_rfl) ?_
      repeat (any_goals (first | go_big_quiet_step (fail) | quiet_step (fail)))
      refine wpQuiet_nil ?_
      intro w2 hw2
      have hbq:=below_rg hw2
      have HI2:=hid (HI.out.below hbq)
      have q0:=(hbq.cell (p:=⟨b0,o0 + x * 2,none⟩) (by simp only; omega)).trans q0
      have r0:=(hbq.cell (p:=⟨b1,o1 + y * 2,none⟩) (by simp only; omega)).trans r0
      have r1:=(hbq.cell (p:=⟨b1,o1 + y * 2 + 1,none⟩) (by simp only; omega)).trans r1
      have f0:=cell_regrown q0
      have f1:=cell_regrown r0
      have hz2:=hbq.size
      clear hw2 hbq HI q1
      go_wp2_with fail
      refine wp_region_quiet_below (by kernel_rfl) (by kernel_rfl) ?_
      repeat (any_goals (first | go_big_quiet_step (fail) | quiet_step (fail)))
      refine wpQuiet_nil ?_
      intro w3 hw3
      have hbq:=below_rg hw3
      have HI3:=hid (HI2.out.below hbq)
      have r0:=(hbq.cell (p:=⟨b1,o1 + y * 2,none⟩) (by simp only; omega)).trans r0
      have r1:=(hbq.cell (p:=⟨b1,o1 + y * 2 + 1,none⟩) (by simp only; omega)).trans r1
      clear f0 f1 hw3 hbq HI2 q0 h1 h2
      have hS:w3.drew.cell? ⟨b1,o1 + y * 2,none⟩=some (.string ⟨P2.toArray⟩)/\w3.drew.cell? ⟨b1,o1 + y * 2 + 1,none⟩=some (.string ⟨E.toArray⟩)/\True:=⟨r0,r1,trivial⟩
      obtain ⟨v',W',hrun,hi'⟩:=(HI3.out.below (Below.refl _ _).drew).fc (mkFc P2 none (some E)) (by have:=HTL.out; rw [HS2.out] at this; simp at this; omega)
      simp only [fcCs,mkFc,Option.isSome_some,Option.getD_some,Option.isSome_none,Option.getD_none] at hrun
      have HRUN:=hid hrun.out
      have HI9:=hid hi'
      clear hrun hi' HI3
      go_wp2_with fail
      refine wp_region_L (S:=(fun Wx=>Wx.cell? ⟨b1,o1 + y * 2,none⟩=some (.string ⟨P2.toArray⟩)/\Wx.cell? ⟨b1,o1 + y * 2 + 1,none⟩=some (.string ⟨E.toArray⟩)/\True)) [12] (by kernel_rfl) hS (fun hHeld=>?_)
      refine anyL_take0 (i:=0) (v:=?vv119) rfl (by kernel_rfl) (by kernel_rfl) (by kernel_rfl) (by kernel_rfl) (fun _ _ _ h=>h) (Or.inl ⟨by rfl,?hy119⟩) (by assumption) ?rest119
      case hy119=>(intro wx hSw; go_simp; try (with_reducible rfl))
      simp only [Act.put,zA,zC,zD,zE,zF]
      refine anyL_take (i:=1) (v:=?vv120) rfl (by kernel_rfl) (by kernel_rfl) (by kernel_rfl) (by kernel_rfl) (fun _ _ _ h=>h) (Or.inl ⟨by rfl,?hy120⟩) (by assumption) ?rest120
      case hy120=>(intro wx hSw; (try dsimp only at hSw); go_simp; try (with_reducible rfl))
      simp only [Act.put,zA,zB,zC,zD,zE,zF]
      refine anyL_take (i:=2) (v:=?vv121) rfl (by kernel_rfl) (by kernel_rfl) (by kernel_rfl) (by kernel_rfl) (fun _ _ _ h=>h) (Or.inl ⟨by rfl,?hy121⟩) (by assumption) ?rest121
      case hy121=>(intro wx hSw; (try dsimp only at hSw); go_simp; try (with_reducible rfl))
      simp only [Act.put,zA,zB,zC,zD,zE,zF]
      refine anyL_take (i:=3) (v:=?vv122) rfl (by kernel_rfl) (by kernel_rfl) (by kernel_rfl) (by kernel_rfl) (fun _ _ _ h=>h) (Or.inl ⟨by rfl,?hy122⟩) (by assumption) ?rest122
      case hy122=>(intro wx hSw; (try dsimp only at hSw); go_simp; try (with_reducible rfl))
      simp only [Act.put,zA,zB,zC,zD,zE,zF]
      refine anyL_take (i:=4) (v:=?vv123) rfl (by kernel_rfl) (by kernel_rfl) (by kernel_rfl) (by kernel_rfl) (fun _ _ _ h=>h) (Or.inl ⟨by rfl,?hy123⟩) (by assumption) ?rest123
      case hy123=>(intro wx hSw; (try dsimp only at hSw); go_simp; try (with_reducible rfl))
      simp only [Act.put,zA,zB,zC,zD,zE,zF]
      refine anyL_take (i:=5) (v:=?vv124) rfl (by kernel_rfl) (by kernel_rfl) (by kernel_rfl) (by kernel_rfl) (fun _ _ _ h=>h) (Or.inl ⟨by rfl,?hy124⟩) (by assumption) ?rest124
      case hy124=>(intro wx hSw; (try dsimp only at hSw); go_simp; try (with_reducible rfl))
      simp only [Act.put,zA,zB,zC,zD,zE,zF]
      refine anyL_take (i:=6) (v:=?vv125) rfl (by kernel_rfl) (by kernel_rfl) (by kernel_rfl) (by kernel_rfl) (fun _ _ _ h=>h) (Or.inl ⟨by rfl,?hy125⟩) (by assumption) ?rest125
      case hy125=>(intro wx hSw; (try dsimp only at hSw); go_simp; try (with_reducible rfl))
      simp only [Act.put,zA,zB,zC,zD,zE,zF]
      refine anyL_take (i:=7) (v:=?vv126) rfl (by kernel_rfl) (by kernel_rfl) (by kernel_rfl) (by kernel_rfl) (fun _ _ _ h=>h) (Or.inl ⟨by rfl,?hy126⟩) (by assumption) ?rest126
      case hy126=>(intro wx hSw; (try dsimp only at hSw); go_simp; try (with_reducible rfl))
      simp only [Act.put,zA,zB,zC,zD,zE,zF]
      refine anyL_take (i:=8) (v:=?vv127) rfl (by kernel_rfl) (by kernel_rfl) (by kernel_rfl) (by kernel_rfl) (fun _ _ _ h=>h) (Or.inl ⟨by rfl,?hy127⟩) (by assumption) ?rest127
      case hy127=>(intro wx hSw; (try dsimp only at hSw); go_simp; try (with_reducible rfl))
      simp only [Act.put,zA,zB,zC,zD,zE,zF]
      refine anyL_take (i:=9) (v:=?vv128) rfl (by kernel_rfl) (by kernel_rfl) (by kernel_rfl) (by kernel_rfl) (fun _ _ _ h=>h) (Or.inl ⟨by rfl,?hy128⟩) (by assumption) ?rest128
      case hy128=>(intro wx hSw; (try dsimp only at hSw); go_simp; try (with_reducible rfl))
      simp only [Act.put,zA,zB,zC,zD,zE,zF]
      refine anyL_take (i:=10) (v:=?vv129) rfl (by kernel_rfl) (by kernel_rfl) (by kernel_rfl) (by kernel_rfl) (fun _ _ _ h=>h) (Or.inl ⟨by rfl,?hy129⟩) (by assumption) ?rest129
      case hy129=>(intro wx hSw; (try dsimp only at hSw); go_simp; try (with_reducible rfl))
      simp only [Act.put,zA,zB,zC,zD,zE,zF]
      refine anyL_take (i:=11) (v:=?vv130) rfl (by kernel_rfl) (by kernel_rfl) (by kernel_rfl) (by kernel_rfl) (fun _ _ _ h=>h) (Or.inl ⟨by rfl,?hy130⟩) (by assumption) ?rest130
      case hy130=>(intro wx hSw; (try dsimp only at hSw); go_simp; try (with_reducible rfl))
      simp only [Act.put,zA,zB,zC,zD,zE,zF]
      refine anyL_one (i:=12) (by kernel_rfl) rfl (fun K hK=>?_)
      go_simp
      refine hK.out _ _ ((fun h=>absurd h (by decide))) (fun hHeld=>?_)
      clear hK K
      refine anyL_one (i:=13) (by kernel_rfl) rfl (fun K hK=>?_)
      refine step_append_run (by rfl) (.tmp 110) (.tmp 122) _ _ (by rfl) _ _ (by rfl) (by rfl) _ _ HRUN.out ?_
      refine hK.out _ _ ((fun h=>absurd h (by decide))) (fun hHeld=>?_)
      clear hK K
      refine anyL_one (i:=14) (by kernel_rfl) rfl (fun K hK=>?_)
      go_simp
      refine hK.out _ _ ((fun h=>absurd h (by decide))) (fun hHeld=>?_)
      clear hK K
      refine anyL_done (by kernel_rfl) ?_ _
      go_wp2_with fail
      go_roundw
      case rel=>exact ⟨x,y + 1,g,_,rfl,by go_num,by omega,by omega,by omega,HS2,HI9⟩
      case measure=>simp [intOf] <;> omega
     | false=>
      have HS1:=hid (HS.out.trans (congrArg (out ++ ·) (D3.out h1 h2)))
      clear D2 D3 HS
      go_wp2_with fail
      refine wp_region_quiet_below (by kernel_rfl) (by kernel_rfl) ?_
      repeat (any_goals (first | go_big_quiet_step (fail) | quiet_step (fail)))
      refine wpQuiet_nil ?_
      intro w2 hw2
      have hbq:=below_rg hw2
      have HI2:=hid (HI.out.below hbq)
      have q0:=(hbq.cell (p:=⟨b0,o0 + x * 2,none⟩) (by simp only; omega)).trans q0
      have q1:=(hbq.cell (p:=⟨b0,o0 + x * 2 + 1,none⟩) (by simp only; omega)).trans q1
      have r0:=(hbq.cell (p:=⟨b1,o1 + y * 2,none⟩) (by simp only; omega)).trans r0
      have r1:=(hbq.cell (p:=⟨b1,o1 + y * 2 + 1,none⟩) (by simp only; omega)).trans r1
      have f0:=cell_regrown q0
      have f1:=cell_regrown r0
      have hz2:=hbq.size
      clear hw2 hbq HI
      go_wp2_with fail
      refine wp_region_quiet_below (by kernel_rfl) (by kernel_rfl) ?_
      repeat (any_goals (first | go_big_quiet_step (fail) | quiet_step (fail)))
      refine wpQuiet_nil ?_
      intro w3 hw3
      have hbq:=below_rg hw3
      have HI3:=hid (HI2.out.below hbq)
      have q0:=(hbq.cell (p:=⟨b0,o0 + x * 2,none⟩) (by simp only; omega)).trans q0
      have q1:=(hbq.cell (p:=⟨b0,o0 + x * 2 + 1,none⟩) (by simp only; omega)).trans q1
      have r1:=(hbq.cell (p:=⟨b1,o1 + y * 2 + 1,none⟩) (by simp only; omega)).trans r1
      have f0:=cell_regrown q1
      have f1:=cell_regrown r1
      have hz3:=hbq.size
      clear hw3 hbq HI2 r0 h1 h2
      by_cases he:D=E
      ·have hne:(D == E)=true:=by simpa using he
       have HS2:Hid (T=out ++ dfS g (l.drop (x + 1)) (m.drop (y + 1))):=hid (HS1.out.trans (by simp only [if_pos he]))
       clear HS1 he
       go_wp2_with fail
       refine wp_region_quiet_below (by kernel_rfl) (by kernel_rfl) ?_
       repeat (any_goals (first | go_big_quiet_step (fail) | quiet_step (fail)))
       refine wpQuiet_nil ?_
       intro w4 hw4
       have hbq:=below_rg hw4
       have HI4:=hid (HI3.out.below hbq)
       clear f0 f1 hw4 hbq HI3 q0 q1 r1 hne
       go_wp2_with fail
       go_roundw
       case rel=>exact ⟨x + 1,y + 1,g,out,by go_num,by go_num,by omega,by omega,by omega,HS2,HI4⟩
       case measure=>simp [intOf] <;> omega
      ·have hne:(D == E)=false:=by simpa using he
       have HS2:Hid (T=(out ++ [mkFc P (some D) (some E)]) ++ dfS g (l.drop (x + 1)) (m.drop (y + 1))):=hid (HS1.out.trans (by simp only [if_neg he]; rw [List.append_assoc]; rfl))
       clear HS1 he
       go_wp2_with fail
       refine wp_region_quiet_below (by kernel_rfl) (by kernel_rfl) ?_
       repeat (any_goals (first | go_big_quiet_step (fail) | quiet_step (fail)))
       refine wpQuiet_nil ?_
       intro w4 hw4
       have hbq:=below_rg hw4
       have HI4:=hid (HI3.out.below hbq)
       have q0:=(hbq.cell (p:=⟨b0,o0 + x * 2,none⟩) (by simp only; omega)).trans q0
       have q1:=(hbq.cell (p:=⟨b0,o0 + x * 2 + 1,none⟩) (by simp only; omega)).trans q1
       have r1:=(hbq.cell (p:=⟨b1,o1 + y * 2 + 1,none⟩) (by simp only; omega)).trans r1
       clear f0 f1 hw4 hbq HI3 hne
       have hS:w4.drew.cell? ⟨b0,o0 + x * 2,none⟩=some (.string ⟨P.toArray⟩)/\w4.drew.cell? ⟨b0,o0 + x * 2 + 1,none⟩=some (.string ⟨D.toArray⟩)/\w4.drew.cell? ⟨b1,o1 + y * 2 + 1,none⟩=some (.string ⟨E.toArray⟩)/\True:=⟨q0,q1,r1,trivial⟩
       obtain ⟨v',W',hrun,hi'⟩:=(HI4.out.below (Below.refl _ _).drew).fc (mkFc P (some D) (some E)) (by have:=HTL.out; rw [HS2.out] at this; simp at this; omega)
       simp only [fcCs,mkFc,Option.isSome_some,Option.getD_some] at hrun
       have HRUN:=hid hrun.out
       have HI9:=hid hi'
       clear hrun hi' HI4
       go_wp2_with fail
       refine wp_region_L (S:=(fun Wx=>Wx.cell? ⟨b0,o0 + x * 2,none⟩=some (.string ⟨P.toArray⟩)/\Wx.cell? ⟨b0,o0 + x * 2 + 1,none⟩=some (.string ⟨D.toArray⟩)/\Wx.cell? ⟨b1,o1 + y * 2 + 1,none⟩=some (.string ⟨E.toArray⟩)/\True)) [17] (by kernel_rfl) hS (fun hHeld=>?_)
       refine anyL_take0 (i:=0) (v:=?vv131) rfl (by kernel_rfl) (by kernel_rfl) (by kernel_rfl) (by kernel_rfl) (fun _ _ _ h=>h) (Or.inl ⟨by rfl,?hy131⟩) (by assumption) ?rest131
       case hy131=>(intro wx hSw; go_simp; try (with_reducible rfl))
       simp only [Act.put,zA,zC,zD,zE,zF]
       refine anyL_take (i:=1) (v:=?vv132) rfl (by kernel_rfl) (by kernel_rfl) (by kernel_rfl) (by kernel_rfl) (fun _ _ _ h=>h) (Or.inl ⟨by rfl,?hy132⟩) (by assumption) ?rest132
       case hy132=>(intro wx hSw; (try dsimp only at hSw); go_simp; try (with_reducible rfl))
       simp only [Act.put,zA,zB,zC,zD,zE,zF]
       refine anyL_take (i:=2) (v:=?vv133) rfl (by kernel_rfl) (by kernel_rfl) (by kernel_rfl) (by kernel_rfl) (fun _ _ _ h=>h) (Or.inl ⟨by rfl,?hy133⟩) (by assumption) ?rest133
       case hy133=>(intro wx hSw; (try dsimp only at hSw); go_simp; try (with_reducible rfl))
       simp only [Act.put,zA,zB,zC,zD,zE,zF]
       refine anyL_take (i:=3) (v:=?vv134) rfl (by kernel_rfl) (by kernel_rfl) (by kernel_rfl) (by kernel_rfl) (fun _ _ _ h=>h) (Or.inl ⟨by rfl,?hy134⟩) (by assumption) ?rest134
       case hy134=>(intro wx hSw; (try dsimp only at hSw); go_simp; try (with_reducible rfl))
       simp only [Act.put,zA,zB,zC,zD,zE,zF]
       refine anyL_take (i:=4) (v:=?vv135) rfl (by kernel_rfl) (by kernel_rfl) (by kernel_rfl) (by kernel_rfl) (fun _ _ _ h=>h) (Or.inl ⟨by rfl,?hy135⟩) (by assumption) ?rest135
       case hy135=>(intro wx hSw; (try dsimp only at hSw); go_simp; try (with_reducible rfl))
       simp only [Act.put,zA,zB,zC,zD,zE,zF]
       refine anyL_take (i:=5) (v:=?vv136) rfl (by kernel_rfl) (by kernel_rfl) (by kernel_rfl) (by kernel_rfl) (fun _ _ _ h=>h) (Or.inl ⟨by rfl,?hy136⟩) (by assumption) ?rest136
       case hy136=>(intro wx hSw; (try dsimp only at hSw); go_simp; try (with_reducible rfl))
       simp only [Act.put,zA,zB,zC,zD,zE,zF]
       refine anyL_take (i:=6) (v:=?vv137) rfl (by kernel_rfl) (by kernel_rfl) (by kernel_rfl) (by kernel_rfl) (fun _ _ _ h=>h) (Or.inl ⟨by rfl,?hy137⟩) (by assumption) ?rest137
       case hy137=>(intro wx hSw; (try dsimp only at hSw); go_simp; try (with_reducible rfl))
       simp only [Act.put,zA,zB,zC,zD,zE,zF]
       refine anyL_take (i:=7) (v:=?vv138) rfl (by kernel_rfl) (by kernel_rfl) (by kernel_rfl) (by kernel_rfl) (fun _ _ _ h=>h) (Or.inl ⟨by rfl,?hy138⟩) (by assumption) ?rest138
       case hy138=>(intro wx hSw; (try dsimp only at hSw); go_simp; try (with_reducible rfl))
       simp only [Act.put,zA,zB,zC,zD,zE,zF]
       refine anyL_take (i:=8) (v:=?vv139) rfl (by kernel_rfl) (by kernel_rfl) (by kernel_rfl) (by kernel_rfl) (fun _ _ _ h=>h) (Or.inl ⟨by rfl,?hy139⟩) (by assumption) ?rest139
       case hy139=>(intro wx hSw; (try dsimp only at hSw); go_simp; try (with_reducible rfl))
       simp only [Act.put,zA,zB,zC,zD,zE,zF]
       refine anyL_take (i:=9) (v:=?vv140) rfl (by kernel_rfl) (by kernel_rfl) (by kernel_rfl) (by kernel_rfl) (fun _ _ _ h=>h) (Or.inl ⟨by rfl,?hy140⟩) (by assumption) ?rest140
       case hy140=>(intro wx hSw; (try dsimp only at hSw); go_simp; try (with_reducible rfl))
       simp only [Act.put,zA,zB,zC,zD,zE,zF]
       refine anyL_take (i:=10) (v:=?vv141) rfl (by kernel_rfl) (by kernel_rfl) (by kernel_rfl) (by kernel_rfl) (fun _ _ _ h=>h) (Or.inl ⟨by rfl,?hy141⟩) (by assumption) ?rest141
       case hy141=>(intro wx hSw; (try dsimp only at hSw); go_simp; try (with_reducible rfl))
       simp only [Act.put,zA,zB,zC,zD,zE,zF]
       refine anyL_take (i:=11) (v:=?vv142) rfl (by kernel_rfl) (by kernel_rfl) (by kernel_rfl) (by kernel_rfl) (fun _ _ _ h=>h) (Or.inl ⟨by rfl,?hy142⟩) (by assumption) ?rest142
       case hy142=>(intro wx hSw; (try dsimp only at hSw); go_simp; try (with_reducible rfl))
       simp only [Act.put,zA,zB,zC,zD,zE,zF]
       refine anyL_take (i:=12) (v:=?vv143) rfl (by kernel_rfl) (by kernel_rfl) (by kernel_rfl) (by kernel_rfl) (fun _ _ _ h=>h) (Or.inl ⟨by rfl,?hy143⟩) (by assumption) ?rest143
       case hy143=>(intro wx hSw; (try dsimp only at hSw); go_simp; try (with_reducible rfl))
       simp only [Act.put,zA,zB,zC,zD,zE,zF]
       refine anyL_take (i:=13) (v:=?vv144) rfl (by kernel_rfl) (by kernel_rfl) (by kernel_rfl) (by kernel_rfl) (fun _ _ _ h=>h) (Or.inl ⟨by rfl,?hy144⟩) (by assumption) ?rest144
       case hy144=>(intro wx hSw; (try dsimp only at hSw); go_simp; try (with_reducible rfl))
       simp only [Act.put,zA,zB,zC,zD,zE,zF]
       refine anyL_take (i:=14) (v:=?vv145) rfl (by kernel_rfl) (by kernel_rfl) (by kernel_rfl) (by kernel_rfl) (fun _ _ _ h=>h) (Or.inl ⟨by rfl,?hy145⟩) (by assumption) ?rest145
       case hy145=>(intro wx hSw; (try dsimp only at hSw); go_simp; try (with_reducible rfl))
       simp only [Act.put,zA,zB,zC,zD,zE,zF]
       refine anyL_take (i:=15) (v:=?vv146) rfl (by kernel_rfl) (by kernel_rfl) (by kernel_rfl) (by kernel_rfl) (fun _ _ _ h=>h) (Or.inl ⟨by rfl,?hy146⟩) (by assumption) ?rest146
       case hy146=>(intro wx hSw; (try dsimp only at hSw); go_simp; try (with_reducible rfl))
       simp only [Act.put,zA,zB,zC,zD,zE,zF]
       refine anyL_take (i:=16) (v:=?vv147) rfl (by kernel_rfl) (by kernel_rfl) (by kernel_rfl) (by kernel_rfl) (fun _ _ _ h=>h) (Or.inl ⟨by rfl,?hy147⟩) (by assumption) ?rest147
       case hy147=>(intro wx hSw; (try dsimp only at hSw); go_simp; try (with_reducible rfl))
       simp only [Act.put,zA,zB,zC,zD,zE,zF]
       refine anyL_one (i:=17) (by kernel_rfl) rfl (fun K hK=>?_)
       go_simp
       refine hK.out _ _ ((fun h=>absurd h (by decide))) (fun hHeld=>?_)
       clear hK K
       refine anyL_one (i:=18) (by kernel_rfl) rfl (fun K hK=>?_)
       refine step_append_run (by rfl) (.tmp 29) (.tmp 46) _ _ (by rfl) _ _ (by rfl) (by rfl) _ _ HRUN.out ?_
       refine hK.out _ _ ((fun h=>absurd h (by decide))) (fun hHeld=>?_)
       clear hK K
       refine anyL_one (i:=19) (by kernel_rfl) rfl (fun K hK=>?_)
       go_simp
       refine hK.out _ _ ((fun h=>absurd h (by decide))) (fun hHeld=>?_)
       clear hK K
       refine anyL_done (by kernel_rfl) ?_ _
       go_wp2_with fail
       go_roundw
       case rel=>exact ⟨x + 1,y + 1,g,_,by go_num,by go_num,by omega,by omega,by omega,HS2,HI9⟩
       case measure=>simp [intOf] <;> omega
   ·have hye:y=q:=by omega
    subst hye
    have ye1:((y:Int) == (y:Int))=true:=by simp
    have D1:=hid (df_oend (f:=g) hxl HQ.out)
    generalize l[x]=p at q0 q1 D1
    obtain ⟨P,D⟩:=p
    simp only at q0 q1 D1
    subst haa
    have HS2:Hid (T=(out ++ [mkFc P (some D) none]) ++ dfS g (l.drop (x + 1)) (m.drop y)):=hid (by rw [HS.out,D1.out,List.append_assoc]; rfl)
    clear D1 HS hxl
    go_wp2_with fail
    refine wp_region_quiet_below (by kernel_rfl) (by kernel_rfl) ?_
    repeat (any_goals (first | go_big_quiet_step (fail) | quiet_step (fail)))
    refine wpQuiet_nil ?_
    intro w2 hw2
    have hbq:=below_rg hw2
    have HI2:=hid (HI.out.below hbq)
    have q0:=(hbq.cell (p:=⟨b0,o0 + x * 2,none⟩) (by simp only; omega)).trans q0
    have q1:=(hbq.cell (p:=⟨b0,o0 + x * 2 + 1,none⟩) (by simp only; omega)).trans q1
    clear hw2 hbq HI
    have hS:w2.drew.cell? ⟨b0,o0 + x * 2,none⟩=some (.string ⟨P.toArray⟩)/\w2.drew.cell? ⟨b0,o0 + x * 2 + 1,none⟩=some (.string ⟨D.toArray⟩)/\True:=⟨q0,q1,trivial⟩
    obtain ⟨v',W',hrun,hi'⟩:=(HI2.out.below (Below.refl _ _).drew).fc (mkFc P (some D) none) (by have:=HTL.out; rw [HS2.out] at this; simp at this; omega)
    simp only [fcCs,mkFc,Option.isSome_some,Option.getD_some,Option.isSome_none,Option.getD_none] at hrun
    have HRUN:=hid hrun.out
    have HI9:=hid hi'
    clear hrun hi' HI2
    go_wp2_with fail
    refine wp_region_L (S:=(fun Wx=>Wx.cell? ⟨b0,o0 + x * 2,none⟩=some (.string ⟨P.toArray⟩)/\Wx.cell? ⟨b0,o0 + x * 2 + 1,none⟩=some (.string ⟨D.toArray⟩)/\True)) [12] (by kernel_rfl) hS (fun hHeld=>?_)
    refine anyL_take0 (i:=0) (v:=?vv148) rfl (by kernel_rfl) (by kernel_rfl) (by kernel_rfl) (by kernel_rfl) (fun _ _ _ h=>h) (Or.inl ⟨by rfl,?hy148⟩) (by assumption) ?rest148
    case hy148=>(intro wx hSw; go_simp; try (with_reducible rfl))
    simp only [Act.put,zA,zC,zD,zE,zF]
    refine anyL_take (i:=1) (v:=?vv149) rfl (by kernel_rfl) (by kernel_rfl) (by kernel_rfl) (by kernel_rfl) (fun _ _ _ h=>h) (Or.inl ⟨by rfl,?hy149⟩) (by assumption) ?rest149
    case hy149=>(intro wx hSw; (try dsimp only at hSw); go_simp; try (with_reducible rfl))
    simp only [Act.put,zA,zB,zC,zD,zE,zF]
    refine anyL_take (i:=2) (v:=?vv150) rfl (by kernel_rfl) (by kernel_rfl) (by kernel_rfl) (by kernel_rfl) (fun _ _ _ h=>h) (Or.inl ⟨by rfl,?hy150⟩) (by assumption) ?rest150
    case hy150=>(intro wx hSw; (try dsimp only at hSw); go_simp; try (with_reducible rfl))
    simp only [Act.put,zA,zB,zC,zD,zE,zF]
    refine anyL_take (i:=3) (v:=?vv151) rfl (by kernel_rfl) (by kernel_rfl) (by kernel_rfl) (by kernel_rfl) (fun _ _ _ h=>h) (Or.inl ⟨by rfl,?hy151⟩) (by assumption) ?rest151
    case hy151=>(intro wx hSw; (try dsimp only at hSw); go_simp; try (with_reducible rfl))
    simp only [Act.put,zA,zB,zC,zD,zE,zF]
    refine anyL_take (i:=4) (v:=?vv152) rfl (by kernel_rfl) (by kernel_rfl) (by kernel_rfl) (by kernel_rfl) (fun _ _ _ h=>h) (Or.inl ⟨by rfl,?hy152⟩) (by assumption) ?rest152
    case hy152=>(intro wx hSw; (try dsimp only at hSw); go_simp; try (with_reducible rfl))
    simp only [Act.put,zA,zB,zC,zD,zE,zF]
    refine anyL_take (i:=5) (v:=?vv153) rfl (by kernel_rfl) (by kernel_rfl) (by kernel_rfl) (by kernel_rfl) (fun _ _ _ h=>h) (Or.inl ⟨by rfl,?hy153⟩) (by assumption) ?rest153
    case hy153=>(intro wx hSw; (try dsimp only at hSw); go_simp; try (with_reducible rfl))
    simp only [Act.put,zA,zB,zC,zD,zE,zF]
    refine anyL_take (i:=6) (v:=?vv154) rfl (by kernel_rfl) (by kernel_rfl) (by kernel_rfl) (by kernel_rfl) (fun _ _ _ h=>h) (Or.inl ⟨by rfl,?hy154⟩) (by assumption) ?rest154
    case hy154=>(intro wx hSw; (try dsimp only at hSw); go_simp; try (with_reducible rfl))
    simp only [Act.put,zA,zB,zC,zD,zE,zF]
    refine anyL_take (i:=7) (v:=?vv155) rfl (by kernel_rfl) (by kernel_rfl) (by kernel_rfl) (by kernel_rfl) (fun _ _ _ h=>h) (Or.inl ⟨by rfl,?hy155⟩) (by assumption) ?rest155
    case hy155=>(intro wx hSw; (try dsimp only at hSw); go_simp; try (with_reducible rfl))
    simp only [Act.put,zA,zB,zC,zD,zE,zF]
    refine anyL_take (i:=8) (v:=?vv156) rfl (by kernel_rfl) (by kernel_rfl) (by kernel_rfl) (by kernel_rfl) (fun _ _ _ h=>h) (Or.inl ⟨by rfl,?hy156⟩) (by assumption) ?rest156
    case hy156=>(intro wx hSw; (try dsimp only at hSw); go_simp; try (with_reducible rfl))
    simp only [Act.put,zA,zB,zC,zD,zE,zF]
    refine anyL_take (i:=9) (v:=?vv157) rfl (by kernel_rfl) (by kernel_rfl) (by kernel_rfl) (by kernel_rfl) (fun _ _ _ h=>h) (Or.inl ⟨by rfl,?hy157⟩) (by assumption) ?rest157
    case hy157=>(intro wx hSw; (try dsimp only at hSw); go_simp; try (with_reducible rfl))
    simp only [Act.put,zA,zB,zC,zD,zE,zF]
    refine anyL_take (i:=10) (v:=?vv158) rfl (by kernel_rfl) (by kernel_rfl) (by kernel_rfl) (by kernel_rfl) (fun _ _ _ h=>h) (Or.inl ⟨by rfl,?hy158⟩) (by assumption) ?rest158
    case hy158=>(intro wx hSw; (try dsimp only at hSw); go_simp; try (with_reducible rfl))
    simp only [Act.put,zA,zB,zC,zD,zE,zF]
    refine anyL_take (i:=11) (v:=?vv159) rfl (by kernel_rfl) (by kernel_rfl) (by kernel_rfl) (by kernel_rfl) (fun _ _ _ h=>h) (Or.inl ⟨by rfl,?hy159⟩) (by assumption) ?rest159
    case hy159=>(intro wx hSw; (try dsimp only at hSw); go_simp; try (with_reducible rfl))
    simp only [Act.put,zA,zB,zC,zD,zE,zF]
    refine anyL_one (i:=12) (by kernel_rfl) rfl (fun K hK=>?_)
    go_simp
    refine hK.out _ _ ((fun h=>absurd h (by decide))) (fun hHeld=>?_)
    clear hK K
    refine anyL_one (i:=13) (by kernel_rfl) rfl (fun K hK=>?_)
    refine step_append_run (by rfl) (.tmp 76) (.tmp 88) _ _ (by rfl) _ _ (by rfl) (by rfl) _ _ HRUN.out ?_
    refine hK.out _ _ ((fun h=>absurd h (by decide))) (fun hHeld=>?_)
    clear hK K
    refine anyL_one (i:=14) (by kernel_rfl) rfl (fun K hK=>?_)
    go_simp
    refine hK.out _ _ ((fun h=>absurd h (by decide))) (fun hHeld=>?_)
    clear hK K
    refine anyL_done (by kernel_rfl) ?_ _
    go_wp2_with fail
    go_roundw
    case rel=>exact ⟨x + 1,y,g,_,by go_num,rfl,by omega,by omega,by omega,HS2,HI9⟩
    case measure=>simp [intOf] <;> omega
  ·have hxe:x=n:=by omega
   subst hxe
   have hxi:¬ (x:Int) < (x:Int):=by omega
   have xe1:((x:Int) == (x:Int))=true:=by simp
   by_cases hyq:y < q
   ·have hyi:(y:Int) < (q:Int):=by omega
    have hyl:y < m.length:=by rw [<-HQ.out]; exact hyq
    obtain ⟨g,rfl⟩:∃ g,f=g + 1:=⟨f - 1,by omega⟩
    obtain ⟨b1,o1,haa2,hb1,r0,r1⟩:=fl_cells (HM.out.below HI.out.be (Nat.le_refl _)) hyl
    have hzw:=HI.out.be.size
    have ye0:((y:Int) == (q:Int))=false:=by simp; omega
    have D2:=hid (df_nend (f:=g) HN.out hyl)
    generalize m[y]=r at r0 r1 D2
    obtain ⟨P2,E⟩:=r
    simp only at r0 r1 D2
    subst haa2
    have HS2:Hid (T=(out ++ [mkFc P2 none (some E)]) ++ dfS g (l.drop x) (m.drop (y + 1))):=hid (by rw [HS.out,D2.out,List.append_assoc]; rfl)
    clear D2 HS hyl
    go_wp2_with fail
    refine wp_region_quiet_below (by kernel_rfl) (by kernel_rfl) ?_
    repeat (any_goals (first | go_big_quiet_step (fail) | quiet_step (fail)))
    refine wpQuiet_nil ?_
    intro w2 hw2
    have hbq:=below_rg hw2
    have HI2:=hid (HI.out.below hbq)
    have r0:=(hbq.cell (p:=⟨b1,o1 + y * 2,none⟩) (by simp only; omega)).trans r0
    have r1:=(hbq.cell (p:=⟨b1,o1 + y * 2 + 1,none⟩) (by simp only; omega)).trans r1
    have hz2:=hbq.size
    clear hw2 hbq HI
    go_wp2_with fail
    refine wp_region_quiet_below (by kernel_rfl) (by kernel_rfl) ?_
    repeat (any_goals (first | go_big_quiet_step (fail) | quiet_step (fail)))
    refine wpQuiet_nil ?_
    intro w3 hw3
    have hbq:=below_rg hw3
    have HI3:=hid (HI2.out.below hbq)
    have r0:=(hbq.cell (p:=⟨b1,o1 + y * 2,none⟩) (by simp only; omega)).trans r0
    have r1:=(hbq.cell (p:=⟨b1,o1 + y * 2 + 1,none⟩) (by simp only; omega)).trans r1
    clear hw3 hbq HI2
    have hS:w3.drew.cell? ⟨b1,o1 + y * 2,none⟩=some (.string ⟨P2.toArray⟩)/\w3.drew.cell? ⟨b1,o1 + y * 2 + 1,none⟩=some (.string ⟨E.toArray⟩)/\True:=⟨r0,r1,trivial⟩
    obtain ⟨v',W',hrun,hi'⟩:=(HI3.out.below (Below.refl _ _).drew).fc (mkFc P2 none (some E)) (by have:=HTL.out; rw [HS2.out] at this; simp at this; omega)
    simp only [fcCs,mkFc,Option.isSome_some,Option.getD_some,Option.isSome_none,Option.getD_none] at hrun
    have HRUN:=hid hrun.out
    have HI9:=hid hi'
    clear hrun hi' HI3
    go_wp2_with fail
    refine wp_region_L (S:=(fun Wx=>Wx.cell? ⟨b1,o1 + y * 2,none⟩=some (.string ⟨P2.toArray⟩)/\Wx.cell? ⟨b1,o1 + y * 2 + 1,none⟩=some (.string ⟨E.toArray⟩)/\True)) [12] (by kernel_rfl) hS (fun hHeld=>?_)
    refine anyL_take0 (i:=0) (v:=?vv160) rfl (by kernel_rfl) (by kernel_rfl) (by kernel_rfl) (by kernel_rfl) (fun _ _ _ h=>h) (Or.inl ⟨by rfl,?hy160⟩) (by assumption) ?rest160
    case hy160=>(intro wx hSw; go_simp; try (with_reducible rfl))
    simp only [Act.put,zA,zC,zD,zE,zF]
    refine anyL_take (i:=1) (v:=?vv161) rfl (by kernel_rfl) (by kernel_rfl) (by kernel_rfl) (by kernel_rfl) (fun _ _ _ h=>h) (Or.inl ⟨by rfl,?hy161⟩) (by assumption) ?rest161
    case hy161=>(intro wx hSw; (try dsimp only at hSw); go_simp; try (with_reducible rfl))
    simp only [Act.put,zA,zB,zC,zD,zE,zF]
    refine anyL_take (i:=2) (v:=?vv162) rfl (by kernel_rfl) (by kernel_rfl) (by kernel_rfl) (by kernel_rfl) (fun _ _ _ h=>h) (Or.inl ⟨by rfl,?hy162⟩) (by assumption) ?rest162
    case hy162=>(intro wx hSw; (try dsimp only at hSw); go_simp; try (with_reducible rfl))
    simp only [Act.put,zA,zB,zC,zD,zE,zF]
    refine anyL_take (i:=3) (v:=?vv163) rfl (by kernel_rfl) (by kernel_rfl) (by kernel_rfl) (by kernel_rfl) (fun _ _ _ h=>h) (Or.inl ⟨by rfl,?hy163⟩) (by assumption) ?rest163
    case hy163=>(intro wx hSw; (try dsimp only at hSw); go_simp; try (with_reducible rfl))
    simp only [Act.put,zA,zB,zC,zD,zE,zF]
    refine anyL_take (i:=4) (v:=?vv164) rfl (by kernel_rfl) (by kernel_rfl) (by kernel_rfl) (by kernel_rfl) (fun _ _ _ h=>h) (Or.inl ⟨by rfl,?hy164⟩) (by assumption) ?rest164
    case hy164=>(intro wx hSw; (try dsimp only at hSw); go_simp; try (with_reducible rfl))
    simp only [Act.put,zA,zB,zC,zD,zE,zF]
    refine anyL_take (i:=5) (v:=?vv165) rfl (by kernel_rfl) (by kernel_rfl) (by kernel_rfl) (by kernel_rfl) (fun _ _ _ h=>h) (Or.inl ⟨by rfl,?hy165⟩) (by assumption) ?rest165
    case hy165=>(intro wx hSw; (try dsimp only at hSw); go_simp; try (with_reducible rfl))
    simp only [Act.put,zA,zB,zC,zD,zE,zF]
    refine anyL_take (i:=6) (v:=?vv166) rfl (by kernel_rfl) (by kernel_rfl) (by kernel_rfl) (by kernel_rfl) (fun _ _ _ h=>h) (Or.inl ⟨by rfl,?hy166⟩) (by assumption) ?rest166
    case hy166=>(intro wx hSw; (try dsimp only at hSw); go_simp; try (with_reducible rfl))
    simp only [Act.put,zA,zB,zC,zD,zE,zF]
    refine anyL_take (i:=7) (v:=?vv167) rfl (by kernel_rfl) (by kernel_rfl) (by kernel_rfl) (by kernel_rfl) (fun _ _ _ h=>h) (Or.inl ⟨by rfl,?hy167⟩) (by assumption) ?rest167
    case hy167=>(intro wx hSw; (try dsimp only at hSw); go_simp; try (with_reducible rfl))
    simp only [Act.put,zA,zB,zC,zD,zE,zF]
    refine anyL_take (i:=8) (v:=?vv168) rfl (by kernel_rfl) (by kernel_rfl) (by kernel_rfl) (by kernel_rfl) (fun _ _ _ h=>h) (Or.inl ⟨by rfl,?hy168⟩) (by assumption) ?rest168
    case hy168=>(intro wx hSw; (try dsimp only at hSw); go_simp; try (with_reducible rfl))
    simp only [Act.put,zA,zB,zC,zD,zE,zF]
    refine anyL_take (i:=9) (v:=?vv169) rfl (by kernel_rfl) (by kernel_rfl) (by kernel_rfl) (by kernel_rfl) (fun _ _ _ h=>h) (Or.inl ⟨by rfl,?hy169⟩) (by assumption) ?rest169
    case hy169=>(intro wx hSw; (try dsimp only at hSw); go_simp; try (with_reducible rfl))
    simp only [Act.put,zA,zB,zC,zD,zE,zF]
    refine anyL_take (i:=10) (v:=?vv170) rfl (by kernel_rfl) (by kernel_rfl) (by kernel_rfl) (by kernel_rfl) (fun _ _ _ h=>h) (Or.inl ⟨by rfl,?hy170⟩) (by assumption) ?rest170
    case hy170=>(intro wx hSw; (try dsimp only at hSw); go_simp; try (with_reducible rfl))
    simp only [Act.put,zA,zB,zC,zD,zE,zF]
    refine anyL_take (i:=11) (v:=?vv171) rfl (by kernel_rfl) (by kernel_rfl) (by kernel_rfl) (by kernel_rfl) (fun _ _ _ h=>h) (Or.inl ⟨by rfl,?hy171⟩) (by assumption) ?rest171
    case hy171=>(intro wx hSw; (try dsimp only at hSw); go_simp; try (with_reducible rfl))
    simp only [Act.put,zA,zB,zC,zD,zE,zF]
    refine anyL_one (i:=12) (by kernel_rfl) rfl (fun K hK=>?_)
    go_simp
    refine hK.out _ _ ((fun h=>absurd h (by decide))) (fun hHeld=>?_)
    clear hK K
    refine anyL_one (i:=13) (by kernel_rfl) rfl (fun K hK=>?_)
    refine step_append_run (by rfl) (.tmp 110) (.tmp 122) _ _ (by rfl) _ _ (by rfl) (by rfl) _ _ HRUN.out ?_
    refine hK.out _ _ ((fun h=>absurd h (by decide))) (fun hHeld=>?_)
    clear hK K
    refine anyL_one (i:=14) (by kernel_rfl) rfl (fun K hK=>?_)
    go_simp
    refine hK.out _ _ ((fun h=>absurd h (by decide))) (fun hHeld=>?_)
    clear hK K
    refine anyL_done (by kernel_rfl) ?_ _
    go_wp2_with fail
    go_roundw
    case rel=>exact ⟨x,y + 1,g,_,rfl,by go_num,by omega,by omega,by omega,HS2,HI9⟩
    case measure=>simp [intOf] <;> omega
   ·have hye:y=q:=by omega
    subst hye
    have hyi:¬ (y:Int) < (y:Int):=by omega
    have hTo:T=out:=by rw [HS.out,df_nil (by have:=HN.out; omega) (by have:=HQ.out; omega),List.append_nil]
    subst hTo
    have HO:=hid HI.out
    clear HS HI
    go_wp2_with fail
    go_ret
    exact ⟨va,vc,by rw [HOL.out]; rfl,by have:=HO.out.ow; rw [HOL.out] at this; exact this,HO.out.be⟩
end Go.Proofs.YtdedfkljaeloiaaGreatDoor
