/- Joined texts: HiRw, HiCw, HiCx, HiEx, HiLw, HiAw, HiLx, HiPo, HiSm, HiFi. -/
import Derived.Test.YtfdahmicigpnoaaGreatK10
import Derived.Test.YtfdahmicigpnoaaGreatK11
/- The reference's visit and all. -/
set_option maxRecDepth 100000
set_option maxHeartbeats 16000000
open Go.Lib (hid)
namespace Go.Proofs.YtfdahmicigpnoaaGreat
open Go.RowKit Go.Shelf
set_option linter.unusedVariables false
theorem at_world {P:Program} {c:Code} {Q:Exit->Act->World->Prop} {a:Act} (w:World) (h:c.wp P Q a w):c.wp P Q a w:=h
theorem snD1 {u:World} {A1:Option Addr} {k c1:Nat} {T1:List (Int × Int)} (h1:Digs u.heap.size u A1 T1) (x1 x2:Int) (hb:((T1.length:Nat):Int)<=900000) (hk:T1.length=k) :
  ∃ (v1:Value) (z1:World) (a3:Option Addr) (c3:Nat) (z3:World),Hid ((Builtin.append_ #[24,24] 24 #[.slice (some ⟨u.heap.size,0,none⟩) 0 0,.slice A1 k c1]).run Tryz.prog ((u.alloc (.cells #[] 41)).drew) = .ok v1 z1)/\Hid ((Builtin.append_ #[24,24] 24 #[v1,.slice (some ⟨z1.heap.size,0,none⟩) 1 1]).run Tryz.prog (z1.alloc (.cells #[.int .u64 x1,.int .u64 x2] 41)) = .ok (.slice a3 (k + 1) c3) z3)/\Below u.heap.size u z1/\Hid (z3.ownsRow u.heap.size 41 2 (.slice a3 (k + 1) c3) (k + 1) (dcells (T1 ++ [(x1,x2)]))/\k + 1<=c3/\Below u.heap.size u z3):=by
 have ho:(u.alloc (.cells #[] 41)).drew.ownsRow u.heap.size 41 2 (.slice (some ⟨u.heap.size,0,none⟩) 0 0) 0 []:=(World.ownsRow_made (size:=2) u #[] 0 (Nat.le_refl _) (by decide) rfl).drew
 have hB0:Below u.heap.size u (u.alloc (.cells #[] 41)).drew:=((Below.refl _ u).alloc (Nat.le_refl _) _).drew
 obtain ⟨v1,z1,hr1,hown1,hg1,_⟩:=append_digs (u.alloc (.cells #[] 41)).drew u.heap.size 24 _ [] ho A1 T1 c1 (Digs.ahead h1 hB0) (by simp; omega) hB0.size
 have hB1:Below u.heap.size u z1:=below_own hB0 ho hg1 (Nat.le_refl _)
 obtain ⟨v2,z2,hr2,hown2,hg2,_⟩:=append_one hown1 x1 x2 (by simp; omega) hB1.size
 have hown1':=hown1.alloc (.cells #[.int .u64 x1,.int .u64 x2] 41)
 have HBN:Below u.heap.size u (z1.alloc (.cells #[.int .u64 x1,.int .u64 x2] 41)):=hB1.alloc hB1.size _
 rw [hk] at hr1
 have hB2:Below u.heap.size u z2:=below_own HBN hown1' hg2 (Nat.le_refl _)
 rw [show (([]:List (Int × Int)) ++ T1 ++ [(x1,x2)]).length=k + 1 by simp [hk],List.nil_append] at hown2
 obtain ⟨a3,c3,rfl,hc3⟩:=ownsRow_sliceN hown2
 exact ⟨v1,z1,a3,c3,z2,hid hr1,hid hr2,hB1,hid ⟨hown2,hc3,hB2⟩⟩
theorem snD2 {u:World} {A1:Option Addr} {k c1:Nat} {T1:List (Int × Int)} (h1:Digs u.heap.size u A1 T1) (x1 x2:Int) (hb:((T1.length:Nat):Int)<=900000) (hk:T1.length=k) :
  ∃ (v1:Value) (z1:World) (a3:Option Addr) (c3:Nat) (z3:World),Hid ((Builtin.append_ #[24,24] 24 #[.slice (some ⟨u.heap.size,0,none⟩) 0 0,.slice A1 k c1]).run Tryz.prog (((u.alloc (.cells #[] 41)).alloc (.cells #[.int .u64 x1,.int .u64 x2] 41)).drew) = .ok v1 z1)/\Hid ((Builtin.append_ #[24,24] 24 #[v1,.slice (some ⟨(u.heap.size + 1),0,none⟩) 1 1]).run Tryz.prog (z1) = .ok (.slice a3 (k + 1) c3) z3)/\Below u.heap.size u z1/\Hid (z3.ownsRow u.heap.size 41 2 (.slice a3 (k + 1) c3) (k + 1) (dcells (T1 ++ [(x1,x2)]))/\k + 1<=c3/\Below u.heap.size u z3):=by
 have ho:(((u.alloc (.cells #[] 41)).alloc (.cells #[.int .u64 x1,.int .u64 x2] 41)).drew).ownsRow u.heap.size 41 2 (.slice (some ⟨u.heap.size,0,none⟩) 0 0) 0 []:=by
  exact ((World.ownsRow_made (size:=2) u #[] 0 (Nat.le_refl _) (by decide) rfl).alloc (.cells #[.int .u64 x1,.int .u64 x2] 41)).drew
 have hB0:Below u.heap.size u (((u.alloc (.cells #[] 41)).alloc (.cells #[.int .u64 x1,.int .u64 x2] 41)).drew):=(((Below.refl _ u).alloc (Nat.le_refl _) _).alloc (by simp) _).drew
 have hk0:BK (u.heap.size + 1) #[.int .u64 x1,.int .u64 x2] 41 (((u.alloc (.cells #[] 41)).alloc (.cells #[.int .u64 x1,.int .u64 x2] 41)).drew):=BK.new2 u (.cells #[] 41) #[.int .u64 x1,.int .u64 x2] 41
 obtain ⟨v1,z1,hr1,hown1,hg1,_⟩:=append_digs (((u.alloc (.cells #[] 41)).alloc (.cells #[.int .u64 x1,.int .u64 x2] 41)).drew) u.heap.size 24 _ [] ho A1 T1 c1 (Digs.ahead h1 hB0) (by simp; omega) hB0.size
 have hB1:Below u.heap.size u z1:=below_own hB0 ho hg1 (Nat.le_refl _)
 have hk1:BK (u.heap.size + 1) #[.int .u64 x1,.int .u64 x2] 41 z1:=hk0.grow1 hg1 (by simp)
 obtain ⟨v2,z2,hr2,hown2,hg2,_⟩:=append_digs z1 u.heap.size 24 v1 _ hown1 (some ⟨(u.heap.size + 1),0,none⟩) [(x1,x2)] 1 (digs_one hk1) (by simp; omega) hB1.size
 rw [hk] at hr1
 have hB2:Below u.heap.size u z2:=below_own hB1 hown1 hg2 (Nat.le_refl _)
 rw [show (([]:List (Int × Int)) ++ T1 ++ [(x1,x2)]).length=k + 1 by simp [hk],List.nil_append] at hown2
 obtain ⟨a3,c3,rfl,hc3⟩:=ownsRow_sliceN hown2
 exact ⟨v1,z1,a3,c3,z2,hid hr1,hid hr2,hB1,hid ⟨hown2,hc3,hB2⟩⟩
theorem snD3 {u:World} {A1:Option Addr} {k c1:Nat} {T1:List (Int × Int)} (h1:Digs u.heap.size u A1 T1) (x1 x2:Int) (hb:((T1.length:Nat):Int)<=900000) (hk:T1.length=k) :
  ∃ (v1:Value) (z1:World) (a3:Option Addr) (c3:Nat) (z3:World),Hid ((Builtin.append_ #[24,24] 24 #[.slice (some ⟨(u.heap.size + 1),0,none⟩) 0 0,.slice A1 k c1]).run Tryz.prog (((u.alloc (.cells #[.int .u64 x1,.int .u64 x2] 41)).alloc (.cells #[] 41)).drew) = .ok v1 z1)/\Hid ((Builtin.append_ #[24,24] 24 #[v1,.slice (some ⟨u.heap.size,0,none⟩) 1 1]).run Tryz.prog (z1) = .ok (.slice a3 (k + 1) c3) z3)/\Below u.heap.size u z1/\Hid (z3.ownsRow u.heap.size 41 2 (.slice a3 (k + 1) c3) (k + 1) (dcells (T1 ++ [(x1,x2)]))/\k + 1<=c3/\Below u.heap.size u z3):=by
 have ho:(((u.alloc (.cells #[.int .u64 x1,.int .u64 x2] 41)).alloc (.cells #[] 41)).drew).ownsRow u.heap.size 41 2 (.slice (some ⟨(u.heap.size + 1),0,none⟩) 0 0) 0 []:=by
  have:=(World.ownsRow_made (size:=2) (base:=u.heap.size) (e:=41) (u.alloc (.cells #[.int .u64 x1,.int .u64 x2] 41)) #[] 0 (by simp) (by decide) rfl).drew
  rwa [World.size_alloc] at this
 have hB0:Below u.heap.size u (((u.alloc (.cells #[.int .u64 x1,.int .u64 x2] 41)).alloc (.cells #[] 41)).drew):=(((Below.refl _ u).alloc (Nat.le_refl _) _).alloc (by simp) _).drew
 have hk0:BK u.heap.size #[.int .u64 x1,.int .u64 x2] 41 (((u.alloc (.cells #[.int .u64 x1,.int .u64 x2] 41)).alloc (.cells #[] 41)).drew):=(BK.new u #[.int .u64 x1,.int .u64 x2] 41).alloc (.cells #[] 41)
 obtain ⟨v1,z1,hr1,hown1,hg1,_⟩:=append_digs (((u.alloc (.cells #[.int .u64 x1,.int .u64 x2] 41)).alloc (.cells #[] 41)).drew) u.heap.size 24 _ [] ho A1 T1 c1 (Digs.ahead h1 hB0) (by simp; omega) hB0.size
 have hB1:Below u.heap.size u z1:=below_own hB0 ho hg1 (Nat.le_refl _)
 have hk1:BK u.heap.size #[.int .u64 x1,.int .u64 x2] 41 z1:=hk0.grow1 hg1 (by simp)
 obtain ⟨v2,z2,hr2,hown2,hg2,_⟩:=append_digs z1 u.heap.size 24 v1 _ hown1 (some ⟨u.heap.size,0,none⟩) [(x1,x2)] 1 (digs_one hk1) (by simp; omega) hB1.size
 rw [hk] at hr1
 have hB2:Below u.heap.size u z2:=below_own hB1 hown1 hg2 (Nat.le_refl _)
 rw [show (([]:List (Int × Int)) ++ T1 ++ [(x1,x2)]).length=k + 1 by simp [hk],List.nil_append] at hown2
 obtain ⟨a3,c3,rfl,hc3⟩:=ownsRow_sliceN hown2
 exact ⟨v1,z1,a3,c3,z2,hid hr1,hid hr2,hB1,hid ⟨hown2,hc3,hB2⟩⟩
theorem visS_mea (xs:List Itm) (rest:List (Int × Int)):∀ (f:Nat) (st cur:List (Int × Int)),mea xs st cur<=f->(visS xs st cur).2=0->(visS xs st cur).1.length + mea xs rest (visS xs st cur).1<=cur.length + mea xs (st ++ rest) cur
 | f,[],cur,_,_=>by rw [visS_nil]; exact Nat.le_refl _
 | 0,d :: st,cur,h,_=>by unfold mea at h; simp at h
 | f + 1,d :: st,cur,h,h0=>by
  have h1:=mea_pop' xs st cur d
  have h2:=mea_pop' xs (st ++ rest) cur d
  rw [visS_cons] at h0 ⊢
  rw [List.cons_append]
  by_cases hd:d ∈ cur
  ·rw [if_pos hd] at h0 ⊢
   have:=visS_mea xs rest f st cur (by omega) h0
   omega
  ·rw [if_neg hd] at h0 ⊢
   by_cases he:(commitS xs d).2=0
   ·have he':¬ ((commitS xs d).2 ≠ 0):=by simpa using he
    rw [if_neg he'] at h0 ⊢
    have h3:=mea_hit' (st:=st) hd he
    have h4:=mea_hit' (st:=st ++ rest) hd he
    have:=visS_mea xs rest f _ _ (by omega) h0
    rw [List.append_assoc] at this
    simp at this
    omega
   ·rw [if_pos he] at h0
    exact absurd h0 he
theorem visS_le {xs:List Itm} {st cur:List (Int × Int)} (h:(visS xs st cur).2=0):cur.length<=(visS xs st cur).1.length:=by
 obtain ⟨new,hn⟩:=(visS_law xs _ st cur (Nat.le_refl _) h).pre
 rw [hn]; simp
theorem visS_one (xs:List Itm) (p:Int × Int) (rest cur:List (Int × Int)):visS xs (p :: rest) cur=if (visS xs [p] cur).2 ≠ 0 then ([],(visS xs [p] cur).2) else visS xs rest (visS xs [p] cur).1:=
 visS_append xs _ [p] rest cur (Nat.le_refl _)
theorem mea_one (xs:List Itm) (p:Int × Int) (rest cur:List (Int × Int)):mea xs [p] cur<=mea xs (p :: rest) cur:=by unfold mea; simp
def GotR (w:World) (r:List (Int × Int) × Int) (e:Ending) (w':World):Prop:=∃ a c,e = .returned (.tuple #[.slice a r.1.length c,.int .i64 r.2])/\Digs w'.heap.size w' a r.1/\r.1.length<=c/\Below w.heap.size w w'
theorem rvisit_any (a:Option Addr) (xs:List Itm) (c:Nat) (hA:Asc xs) (hn:(xs.length:Int)<=1000000) (hd:∀ x ∈ xs,(x.data.length:Int)<=1000000) :
  ∀ (f:Nat) (sa:Option Addr) (seen:List (Int × Int)) (sc:Nat) (x y:Int) (w:World),Its w.heap.size w a xs->Digs w.heap.size w sa seen->seen.length<=sc->((seen.length + mea xs [(x,y)] seen:Nat):Int)<=900000->mea xs [(x,y)] seen<=f->
  Calls Tryz.prog 199 #[.slice a xs.length c,.agg #[.int .u64 x,.int .u64 y],.slice sa seen.length sc] w (GotR w (visS xs [(x,y)] seen)):=by
 intro f
 induction f with
 | zero=>intro sa seen sc x y w _ _ _ _ hf; unfold mea at hf; simp at hf
 | succ f ih=>
  intro sa seen sc x y w hp hs hsc hsl hf
  have HIH:=hid ih
  clear ih
  have HCO:=hid (fun d1 d2 W (hW:Its W.heap.size W a xs)=>rcmt_any a xs c d1 d2 W hW hA hn hd)
  have HP:=hid hp
  have HS:=hid hs
  obtain ⟨R,hR⟩:∃ R,R=visS xs [(x,y)] seen:=⟨_,rfl⟩
  rw [<-hR]
  rw [visS_cons,visS_nil] at hR
  obtain ⟨nx,hnn⟩:∃ n,n=xs.length:=⟨_,rfl⟩
  rw [<-hnn] at HIH HCO ⊢
  obtain ⟨m,hm⟩:∃ m,m=seen.length:=⟨_,rfl⟩
  have HM:=hid hm
  have HR:=hid hR
  have HF:=hid hf
  obtain ⟨w0,hw0⟩:∃ w0,w0=w.alloc (.cells #[.int .u64 x,.int .u64 y] 41):=⟨_,rfl⟩
  have HK0:Hid (BK w.heap.size #[.int .u64 x,.int .u64 y] 41 w0):=hid (by rw [hw0]; exact BK.new _ _ _)
  have HB0:Hid (Below w.heap.size w w0):=hid (by rw [hw0]; exact (Below.refl _ w).alloc (Nat.le_refl _) _)
  have HIN:=hid (rin_any sa seen sc x y w0 (hs.ahead HB0.out) (by omega))
  rw [<-hm] at HIN hsc hsl ⊢
  rw [hw0] at HIN
  have HW0:=hid hw0
  clear hw0 hR hm hnn hp hs hf hn hd hA
  cases hin:decide ((x,y) ∈ seen) with
  | true=>
   rw [hin] at HIN
   have HX:Hid (R=(seen,0)):=hid (by rw [HR.out,if_pos (by simpa using hin)])
   clear hin HR
   go_enter Tryz.func199,Tryz.ntmps199
   go_wp2_with fail
   (with_reducible refine (HIN.out).mono ?_)
   rintro e u ⟨rfl,hb⟩
   rw [<-HW0.out] at hb
   have HB1:=hid (HB0.out.trans (hb.mono HB0.out.size))
   clear hb HIN HW0
   go_wp2_with fail
   go_ret2
   rw [HX.out]
   exact ⟨sa,sc,by first | (rw [<-HM.out]; done) | (rw [<-HM.out]; rfl),HS.out.ahead HB1.out,by rw [<-HM.out]; exact hsc,HB1.out⟩
  | false=>
   rw [hin] at HIN
   have hni:(x,y) ∉ seen:=by simpa using hin
   have HX:Hid (R=if (commitS xs (x,y)).2 ≠ 0 then ([],(commitS xs (x,y)).2) else visS xs (commitS xs (x,y)).1.pars (seen ++ [(x,y)])):=hid (by rw [HR.out,if_neg hni,List.append_nil])
   have HMH:Hid ((commitS xs (x,y)).2=0->mea xs (commitS xs (x,y)).1.pars (seen ++ [(x,y)])<=f/\((m + 1 + mea xs (commitS xs (x,y)).1.pars (seen ++ [(x,y)]):Nat):Int)<=900000):=hid (fun h=>by
    have:=mea_hit' (st:=[]) hni h
    rw [List.append_nil] at this
    have:=HF.out
    omega)
   have HPL:Hid ((commitS xs (x,y)).2=0->(commitS xs (x,y)).1.pars.length<=200):=hid (fun h=>pars_le h)
   clear hin HR hni HF
   go_enter Tryz.func199,Tryz.ntmps199
   go_wp2_with fail
   (with_reducible refine (HIN.out).mono ?_)
   rintro e u ⟨rfl,hb⟩
   rw [<-HW0.out] at hb
   have HB1:=hid (HB0.out.trans (hb.mono HB0.out.size))
   have HK1:=hid (HK0.out.below hb)
   have HC1:=hid (HCO.out x y u (HP.out.ahead HB1.out))
   clear hb HIN HW0 HK0 HB0 w0
   generalize commitS xs (x,y)=OE at HC1 HX HMH HPL
   obtain ⟨o,er⟩:=OE
   simp only at HC1 HX HMH HPL
   obtain ⟨e0,e1⟩:=BK.c2 (show BK _ #[.int .u64 x,.int .u64 y] _ _ from HK1.out)
   go_wp2_with fail
   (with_reducible refine (HC1.out).mono ?_)
   rintro e u2 ⟨ea,ec,pa,pc,rfl,hob,hb⟩
   have HB2:=hid (HB1.out.trans (hb.mono HB1.out.size))
   have HK2:=hid (HK1.out.below hb)
   have HPD:=hid (ownsRow_digs hob.po)
   clear hb hob HC1 HB1 HK1 e0 e1 u
   obtain ⟨kind,data,ents,⟨t1,t2⟩,pars,author,time,msg⟩:=o
   simp only [Ob.val]
   simp only at HX HMH HPD HPL
   obtain ⟨ne,hne⟩:∃ ne,ne=ents.length:=⟨_,rfl⟩
   obtain ⟨n,hnp⟩:∃ np,np=pars.length:=⟨_,rfl⟩
   rw [<-hne,<-hnp]
   rw [<-hnp] at HPL
   have HNP:=hid hnp
   clear hne hnp
   obtain ⟨u3,hu3⟩:∃ u3,u3=u2.alloc (.cells #[.int .i64 kind,.string ⟨data.toArray⟩,.slice ea ne ec,.int .u64 t1,.int .u64 t2,.slice pa n pc,.string ⟨author.toArray⟩,.int .i64 time,.string ⟨msg.toArray⟩] 56):=⟨_,rfl⟩
   by_cases he:er=0
   ·subst he
    simp only [ne_eq,not_true_eq_false,if_false] at HX
    have hpl:=HPL.out rfl
    have HMH2:=hid (HMH.out rfl)
    have HKO:Hid (BK u2.heap.size #[.int .i64 kind,.string ⟨data.toArray⟩,.slice ea ne ec,.int .u64 t1,.int .u64 t2,.slice pa n pc,.string ⟨author.toArray⟩,.int .i64 time,.string ⟨msg.toArray⟩] 56 u3):=hid (by rw [hu3]; exact BK.new _ _ _)
    have HK3:Hid (BK w.heap.size #[.int .u64 x,.int .u64 y] 41 u3):=hid (by rw [hu3]; exact HK2.out.alloc _)
    have HB3:Hid (Below w.heap.size w u3):=hid (by rw [hu3]; exact HB2.out.alloc HB2.out.size _)
    have HPD3:Hid (Digs u3.heap.size u3 pa pars):=hid (by rw [hu3]; exact HPD.out.ahead ((Below.refl _ _).alloc (Nat.le_refl _) _))
    have HU3:=hid hu3
    clear hu3 HMH HPL HB2 HK2 HPD
    have hsd:=HS.out.ahead HB3.out
    have hml:((seen.length:Nat):Int)<=900000:=by rw [<-HM.out]; omega
    obtain ⟨zv1,z1,za,zc,z3,H11,H12,hb1,HF1⟩:=snD1 (c1:=sc) hsd x y hml HM.out.symm
    obtain ⟨yv1,y1,ya,yc,y3,H21,H22,hb2,HF2⟩:=snD2 (c1:=sc) hsd x y hml HM.out.symm
    obtain ⟨tv1,t1',ta,tc,t3,H31,H32,hb3,HF3⟩:=snD3 (c1:=sc) hsd x y hml HM.out.symm
    have HKZ:=hid (HK3.out.below hb1)
    obtain ⟨p0,p1⟩:=BK.c2 (show BK _ #[.int .u64 x,.int .u64 y] _ _ from HKZ.out)
    obtain ⟨e0,e1⟩:=BK.c2 (show BK _ #[.int .u64 x,.int .u64 y] _ _ from HK3.out)
    have e0a:=fun o=>cell_a1 e0 o
    have e1a:=fun o=>cell_a1 e1 o
    clear hb1 hb2 hb3 hsd hml
    go_upto_region 6 with (fail)
    rw [<-HU3.out]
    go_region_law
      (first
      | ((with_reducible refine step_at ((u3.alloc (.cells #[] 41)).drew) ?_); refine step_append_run (by rfl) (.tmp 24) (.tmp 25) _ _ (by rfl) _ _ (by rfl) (by rfl) _ _ H11.out ?_)
      | ((with_reducible refine step_at (((u3.alloc (.cells #[] 41)).alloc (.cells #[.int .u64 x,.int .u64 y] 41)).drew) ?_); refine step_append_run (by rfl) (.tmp 24) (.tmp 25) _ _ (by rfl) _ _ (by rfl) (by rfl) _ _ H21.out ?_)
      | ((with_reducible refine step_at (((u3.alloc (.cells #[.int .u64 x,.int .u64 y] 41)).alloc (.cells #[] 41)).drew) ?_); refine step_append_run (by rfl) (.tmp 24) (.tmp 25) _ _ (by rfl) _ _ (by rfl) (by rfl) _ _ H31.out ?_)
      | ((with_reducible refine step_at (z1.alloc (.cells #[.int .u64 x,.int .u64 y] 41)) ?_); refine step_append_run (by rfl) (.tmp 26) (.tmp 28) _ _ (by rfl) _ _ (by rfl) (by rfl) _ _ H12.out ?_)
      | ((with_reducible refine step_at y1 ?_); refine step_append_run (by rfl) (.tmp 26) (.tmp 28) _ _ (by rfl) _ _ (by rfl) (by rfl) _ _ H22.out ?_)
      | ((with_reducible refine step_at t1' ?_); refine step_append_run (by rfl) (.tmp 26) (.tmp 28) _ _ (by rfl) _ _ (by rfl) (by rfl) _ _ H32.out ?_)
      | fail)
    all_goals go_wp2_with fail
    all_goals
     first
     | ((with_reducible refine at_world z3 ?_); have HF:=HF1; clear HF1 HF2 HF3 H11 H12 H21 H22 H31 H32 p0 p1 HKZ e0 e1 e0a e1a; (generalize z3=w5 at HF ⊢); (generalize za=qa at HF ⊢); (generalize zc=qc at HF ⊢))
     | ((with_reducible refine at_world y3 ?_); have HF:=HF2; clear HF1 HF2 HF3 H11 H12 H21 H22 H31 H32 p0 p1 HKZ e0 e1 e0a e1a; (generalize y3=w5 at HF ⊢); (generalize ya=qa at HF ⊢); (generalize yc=qc at HF ⊢))
     | ((with_reducible refine at_world t3 ?_); have HF:=HF3; clear HF1 HF2 HF3 H11 H12 H21 H22 H31 H32 p0 p1 HKZ e0 e1 e0a e1a; (generalize t3=w5 at HF ⊢); (generalize ta=qa at HF ⊢); (generalize tc=qc at HF ⊢))
    all_goals
     have HB5:=hid (HB3.out.trans (HF.out.2.2.mono HB3.out.size))
     have hqc5:=HF.out.2.1
     have HK5:=hid (HKO.out.below HF.out.2.2)
     have HP5:=hid (HPD3.out.ahead HF.out.2.2)
     have HL5:Hid (m + 1=(seen ++ [(x,y)]).length):=hid (by rw [List.length_append,HM.out]; rfl)
     have HD5:=hid (own_digs HL5.out HF.out.1)
     have HF5:=HMH2
     clear HF HMH2 HB3 HKO HPD3 HK3 HU3 HS HM
     generalize seen ++ [(x,y)]=cur0 at HX HF5 HD5 HL5
     go_loopw [2,9,10] (fun v e i wr=>∃ (k:Nat) (cur:List (Int × Int)) (ca:Option Addr) (cc q:Nat),k<=n/\v = .slice ca q cc/\Hid (q=cur.length)/\q<=cc/\e = .int .i64 0/\i = .int .i64 k/\Hid (Digs wr.heap.size wr ca cur)/\Hid (Below w.heap.size w wr)/\Hid (BK u2.heap.size #[.int .i64 kind,.string ⟨data.toArray⟩,.slice ea ne ec,.int .u64 t1,.int .u64 t2,.slice pa n pc,.string ⟨author.toArray⟩,.int .i64 time,.string ⟨msg.toArray⟩] 56 wr)/\Hid (Digs wr.heap.size wr pa pars)/\Hid (R=visS xs (pars.drop k) cur)/\Hid (mea xs (pars.drop k) cur<=f/\((q + mea xs (pars.drop k) cur:Nat):Int)<=900000)) (fun _ _ i _=>n - (intOf i).toNat)
     case atStart=>exact ⟨0,cur0,qa,qc,m + 1,by omega,rfl,HL5,hqc5,rfl,rfl,HD5,HB5,HK5,HP5,HX,HF5⟩
     case round=>
      clear HB5 HD5 hqc5 HK5 HP5 HL5 HF5 HX
      obtain ⟨k,cur,ca,cc,q,hk,rfl,HQ,hqc,rfl,rfl,HD,HB,HK,HPD,HR,HF⟩:=hrel
      obtain ⟨o0,o1,o2,o3,o4,o5,o6,o7,o8⟩:=BK.c9 (show BK _ #[.int .i64 kind,.string ⟨data.toArray⟩,.slice ea ne ec,.int .u64 t1,.int .u64 t2,.slice pa n pc,.string ⟨author.toArray⟩,.int .i64 time,.string ⟨msg.toArray⟩] _ _ from HK.out)
      by_cases hlt:k < n
      ·have h1:k < pars.length:=by have:=HNP.out; omega
       obtain ⟨b0,of0,haa,hb0,q0,q1⟩:=HPD.out k h1
       subst haa
       have HDR:Hid (pars.drop k=pars[k] :: pars.drop (k + 1)):=hid (List.drop_eq_getElem_cons h1)
       generalize pars[k]=p at q0 q1 HDR
       obtain ⟨p1,p2⟩:=p
       simp only at q0 q1
       have HV:=hid (HIH.out ca cur cc p1 p2 wr (HP.out.ahead HB.out) HD.out (by rw [<-HQ.out]; exact hqc) (by have h2:=HF.out.2; rw [HDR.out] at h2; have h3:=mea_one xs (p1,p2) (pars.drop (k + 1)) cur; rw [<-HQ.out]; omega) (by have h2:=HF.out.1; rw [HDR.out] at h2; have h3:=mea_one xs (p1,p2) (pars.drop (k + 1)) cur; omega))
       have HR2:Hid (R=if (visS xs [(p1,p2)] cur).2 ≠ 0 then ([],(visS xs [(p1,p2)] cur).2) else visS xs (pars.drop (k + 1)) (visS xs [(p1,p2)] cur).1):=hid (by rw [HR.out,HDR.out,visS_one])
       have HML:Hid ((visS xs [(p1,p2)] cur).2=0->mea xs (pars.drop (k + 1)) (visS xs [(p1,p2)] cur).1<=f/\(((visS xs [(p1,p2)] cur).1.length + mea xs (pars.drop (k + 1)) (visS xs [(p1,p2)] cur).1:Nat):Int)<=900000):=hid (fun h=>by
        have h2:=visS_mea xs (pars.drop (k + 1)) _ _ _ (Nat.le_refl _) h
        have h3:=visS_le h
        have h4:=HF.out
        rw [HDR.out,HQ.out] at h4
        rw [List.singleton_append] at h2
        omega)
       rw [<-HQ.out] at HV
       generalize visS xs [(p1,p2)] cur=VR at HV HR2 HML
       obtain ⟨cur2,er⟩:=VR
       simp only at HV HR2 HML
       have hkn:(k:Int) < (n:Int):=by omega
       clear HR HF HDR
       go_wp2_with fail
       (with_reducible refine (HV.out).mono ?_)
       rintro e w6 ⟨da,dc,rfl,hdg,hdc,hb⟩
       have HB6:=hid (HB.out.trans (hb.mono HB.out.size))
       have HK6:=hid (HK.out.below hb)
       have HP6:=hid (HPD.out.ahead hb)
       have HD6:=hid hdg
       clear hb hdg HV HB HK HPD HD q0 q1 o0 o1 o2 o3 o4 o5 o6 o7 o8
       by_cases he:er=0
       ·subst he
        have HR3:Hid (R=visS xs (pars.drop (k + 1)) cur2):=hid (by rw [HR2.out]; simp)
        have HM3:=hid (HML.out rfl)
        obtain ⟨q2,hq2⟩:∃ q2,q2=cur2.length:=⟨_,rfl⟩
        rw [<-hq2] at HM3 hdc ⊢
        have HQ2:=hid hq2
        clear hq2 HR2 HML
        go_wp2_with fail
        go_roundw
        case rel=>exact ⟨k + 1,cur2,da,dc,q2,by omega,rfl,HQ2,hdc,rfl,by go_num,HD6,HB6,HK6,HP6,HR3,HM3⟩
        case measure=>simp [intOf] <;> omega
       ·have hee:(er != 0)=true:=by simpa using he
        have HX2:Hid (R=([],er)):=hid (by rw [HR2.out,if_pos he])
        clear HR2 HML he
        go_wp2_with fail
        go_ret2
        rw [HX2.out]
        exact ⟨none,0,rfl,Digs.nil _ _ _,Nat.le_refl _,HB6.out⟩
      ·have HX2:Hid (R=(cur,0)):=hid (by rw [HR.out,List.drop_of_length_le (by have:=HNP.out; omega),visS_nil])
       have hkn:¬ (k:Int) < (n:Int):=by omega
       clear HR HF
       go_wp2_with fail
       go_ret2
       rw [HX2.out]
       exact ⟨ca,cc,by first | (rw [<-HQ.out]; done) | (rw [<-HQ.out]; rfl),HD.out,by rw [<-HQ.out]; exact hqc,HB.out⟩
   ·have hee:(er != 0)=true:=by simpa using he
    have HX2:Hid (R=([],er)):=hid (by rw [HX.out,if_pos he])
    clear HX HMH HPL hu3
    go_wp2_with fail
    go_ret2
    rw [HX2.out]
    exact ⟨none,0,rfl,Digs.nil _ _ _,Nat.le_refl _,HB2.out.alloc HB2.out.size _⟩
theorem folS_mea (xs:List Itm) (rest:List (Int × Int)):∀ (f:Nat) (st cur:List (Int × Int)),mea xs st cur<=f->(folS xs st cur).length + mea xs rest (folS xs st cur)<=cur.length + mea xs (st ++ rest) cur
 | f,[],cur,_=>by rw [folS_nil]; exact Nat.le_refl _
 | 0,d :: st,cur,h=>by unfold mea at h; simp at h
 | f + 1,d :: st,cur,h=>by
  have h1:=mea_pop' xs st cur d
  have h2:=mea_pop' xs (st ++ rest) cur d
  rw [folS_cons,List.cons_append]
  by_cases hd:d ∈ cur
  ·rw [if_pos hd]
   have:=folS_mea xs rest f st cur (by omega)
   omega
  ·rw [if_neg hd]
   have h3:=mea_go (xs:=xs) (st:=st) hd
   have h4:=mea_go (xs:=xs) (st:=st ++ rest) hd
   have:=folS_mea xs rest f _ (cur ++ [d]) (Nat.le_trans (Nat.le_of_succ_le_succ (Nat.le_trans h3 h)) (Nat.le_refl _))
   rw [List.append_assoc] at this
   simp at this
   omega
theorem folS_le (xs:List Itm):∀ (f:Nat) (st cur:List (Int × Int)),mea xs st cur<=f->cur.length<=(folS xs st cur).length
 | f,[],cur,_=>by rw [folS_nil]; exact Nat.le_refl _
 | 0,d :: st,cur,h=>by unfold mea at h; simp at h
 | f + 1,d :: st,cur,h=>by
  have h1:=mea_pop' xs st cur d
  rw [folS_cons]
  by_cases hd:d ∈ cur
  ·rw [if_pos hd]; exact folS_le xs f st cur (by omega)
  ·rw [if_neg hd]
   have h3:=mea_go (xs:=xs) (st:=st) hd
   have:=folS_le xs f _ (cur ++ [d]) (Nat.le_of_succ_le_succ (Nat.le_trans h3 h))
   simp at this
   omega
theorem folS_one (xs:List Itm) (p:Int × Int) (rest cur:List (Int × Int)) (h:p ∉ cur):folS xs (p :: rest) cur=folS xs rest (folS xs (commitS xs p).1.pars (cur ++ [p])):=by
 rw [folS_cons,if_neg h,folS_append xs _ _ _ _ (Nat.le_refl _)]
theorem at_exit {K:Act->World->Prop} {Q:Exit->Act->World->Prop} {a:Act} (w:World) (h:Exit.then K Q .normal a w):Exit.then K Q .normal a w:=h
def GotFo (w:World) (L:List (Int × Int)) (e:Ending) (w':World):Prop:=∃ a c,e = .returned (.slice a L.length c)/\Digs w'.heap.size w' a L/\L.length<=c/\Below w.heap.size w w'
theorem rfollow_any (a:Option Addr) (xs:List Itm) (c:Nat) (hA:Asc xs) (hn:(xs.length:Int)<=1000000) (hd:∀ x ∈ xs,(x.data.length:Int)<=1000000) :
  ∀ (f:Nat) (sa:Option Addr) (seen:List (Int × Int)) (sc:Nat) (x y:Int) (w:World),Its w.heap.size w a xs->Digs w.heap.size w sa seen->seen.length<=sc->((seen.length + mea xs (commitS xs (x,y)).1.pars seen:Nat):Int)<=900000->mea xs (commitS xs (x,y)).1.pars seen<=f->
  Calls Tryz.prog 132 #[.slice a xs.length c,.agg #[.int .u64 x,.int .u64 y],.slice sa seen.length sc] w (GotFo w (folS xs (commitS xs (x,y)).1.pars seen)):=by
 intro f
 induction f using Nat.strongRecOn with
 | _ f ih=>
  intro sa seen sc x y w hp hs hsc hsl hf
  have HIH:=hid ih
  clear ih
  have HCO:=hid (fun d1 d2 W (hW:Its W.heap.size W a xs)=>rcmt_any a xs c d1 d2 W hW hA hn hd)
  have HP:=hid hp
  have HS:=hid hs
  obtain ⟨R,hR⟩:∃ R,R=folS xs (commitS xs (x,y)).1.pars seen:=⟨_,rfl⟩
  rw [<-hR]
  obtain ⟨nx,hnn⟩:∃ n,n=xs.length:=⟨_,rfl⟩
  rw [<-hnn] at HIH HCO ⊢
  obtain ⟨m,hm⟩:∃ m,m=seen.length:=⟨_,rfl⟩
  have HM:=hid hm
  have HR:=hid hR
  have HF:=hid hf
  have HSL:=hid hsl
  have HNO:Hid ((commitS xs (x,y)).2 ≠ 0->(commitS xs (x,y)).1.pars=[]):=hid no_pars
  have HPL:Hid ((commitS xs (x,y)).2=0->(commitS xs (x,y)).1.pars.length<=200):=hid (fun h=>pars_le h)
  obtain ⟨w0,hw0⟩:∃ w0,w0=w.alloc (.cells #[.int .u64 x,.int .u64 y] 41):=⟨_,rfl⟩
  have HB0:Hid (Below w.heap.size w w0):=hid (by rw [hw0]; exact (Below.refl _ w).alloc (Nat.le_refl _) _)
  have HC1:=hid (HCO.out x y w0 (hp.ahead HB0.out))
  rw [<-hm] at hsc ⊢
  rw [hw0] at HC1
  have HW0:=hid hw0
  generalize commitS xs (x,y)=OE at HC1 HR HF HSL HPL HNO
  obtain ⟨o,er⟩:=OE
  simp only at HC1 HR HF HSL HPL HNO
  clear hw0 hR hm hnn hp hs hf hsl hn hd hA HCO
  go_enter Tryz.func132,Tryz.ntmps132
  go_wp2_with fail
  (with_reducible refine (HC1.out).mono ?_)
  rintro e u2 ⟨ea,ec,pa,pc,rfl,hob,hb⟩
  rw [<-HW0.out] at hob hb
  have HB2:=hid (HB0.out.trans (hb.mono HB0.out.size))
  have HPD:=hid (ownsRow_digs hob.po)
  clear hb hob HC1 HB0 HW0
  obtain ⟨kind,data,ents,⟨t1,t2⟩,pars,author,time,msg⟩:=o
  simp only [Ob.val]
  simp only at HR HF HSL HPD HPL HNO
  obtain ⟨ne,hne⟩:∃ ne,ne=ents.length:=⟨_,rfl⟩
  obtain ⟨n,hnp⟩:∃ np,np=pars.length:=⟨_,rfl⟩
  rw [<-hne,<-hnp]
  rw [<-hnp] at HPL
  have HNP:=hid hnp
  clear hne hnp
  obtain ⟨u3,hu3⟩:∃ u3,u3=u2.alloc (.cells #[.int .i64 kind,.string ⟨data.toArray⟩,.slice ea ne ec,.int .u64 t1,.int .u64 t2,.slice pa n pc,.string ⟨author.toArray⟩,.int .i64 time,.string ⟨msg.toArray⟩] 56):=⟨_,rfl⟩
  by_cases he:er=0
  ·subst he
   have hpl:=HPL.out rfl
   have HKO:Hid (BK u2.heap.size #[.int .i64 kind,.string ⟨data.toArray⟩,.slice ea ne ec,.int .u64 t1,.int .u64 t2,.slice pa n pc,.string ⟨author.toArray⟩,.int .i64 time,.string ⟨msg.toArray⟩] 56 u3):=hid (by rw [hu3]; exact BK.new _ _ _)
   have HB3:Hid (Below w.heap.size w u3):=hid (by rw [hu3]; exact HB2.out.alloc HB2.out.size _)
   have HPD3:Hid (Digs u3.heap.size u3 pa pars):=hid (by rw [hu3]; exact HPD.out.ahead ((Below.refl _ _).alloc (Nat.le_refl _) _))
   have HSD3:=hid (HS.out.ahead HB3.out)
   have HU3:=hid hu3
   clear hu3 HPL HB2 HPD HNO
   go_wp2_with fail
   rw [<-HU3.out]
   clear HU3
   go_loopw [2,9] (fun v i wr=>∃ (k:Nat) (cur:List (Int × Int)) (ca:Option Addr) (cc q:Nat),k<=n/\v = .slice ca q cc/\Hid (q=cur.length)/\q<=cc/\i = .int .i64 k/\Hid (Digs wr.heap.size wr ca cur)/\Hid (Below w.heap.size w wr)/\Hid (BK u2.heap.size #[.int .i64 kind,.string ⟨data.toArray⟩,.slice ea ne ec,.int .u64 t1,.int .u64 t2,.slice pa n pc,.string ⟨author.toArray⟩,.int .i64 time,.string ⟨msg.toArray⟩] 56 wr)/\Hid (Digs wr.heap.size wr pa pars)/\Hid (R=folS xs (pars.drop k) cur)/\Hid (mea xs (pars.drop k) cur<=f/\((q + mea xs (pars.drop k) cur:Nat):Int)<=900000)) (fun _ i _=>n - (intOf i).toNat)
   case atStart=>exact ⟨0,seen,sa,sc,m,by omega,rfl,HM,hsc,rfl,HSD3,HB3,HKO,HPD3,HR,hid ⟨HF.out,by rw [HM.out]; exact HSL.out⟩⟩
   case round=>
    clear HSD3 HB3 HKO HPD3 HR HF HSL HS HM hsc
    obtain ⟨k,cur,ca,cc,q,hk,rfl,HQ,hqc,rfl,HD,HB,HK,HPX,HR,HF⟩:=hrel
    obtain ⟨o0,o1,o2,o3,o4,o5,o6,o7,o8⟩:=BK.c9 (show BK _ #[.int .i64 kind,.string ⟨data.toArray⟩,.slice ea ne ec,.int .u64 t1,.int .u64 t2,.slice pa n pc,.string ⟨author.toArray⟩,.int .i64 time,.string ⟨msg.toArray⟩] _ _ from HK.out)
    by_cases hlt:k < n
    ·have h1:k < pars.length:=by have:=HNP.out; omega
     obtain ⟨b0,of0,haa,hb0,q0,q1⟩:=HPX.out k h1
     subst haa
     have HDR:Hid (pars.drop k=pars[k] :: pars.drop (k + 1)):=hid (List.drop_eq_getElem_cons h1)
     have HEL:Hid (∀ (W:World),Digs W.heap.size W (some ⟨b0,of0,none⟩) pars->W.cell? ⟨b0,of0 + k * 2,none⟩=some (.int .u64 pars[k].1)/\W.cell? ⟨b0,of0 + k * 2 + 1,none⟩=some (.int .u64 pars[k].2)):=hid (fun W h=>by
      obtain ⟨b',o',e',_,c1,c2⟩:=h k h1
      cases e'
      exact ⟨c1,c2⟩)
     generalize pars[k]=p at q0 q1 HDR HEL
     obtain ⟨p1,p2⟩:=p
     simp only at q0 q1 HEL
     have hql:((q:Nat):Int)<=900000:=by have:=HF.out; omega
     have HIN:=hid (rin_any ca cur cc p1 p2 wr HD.out (by rw [<-HQ.out]; omega))
     rw [<-HQ.out] at HIN
     have hkn:(k:Int) < (n:Int):=by omega
     cases hin:decide ((p1,p2) ∈ cur) with
     | true=>
      rw [hin] at HIN
      have HR2:Hid (R=folS xs (pars.drop (k + 1)) cur):=hid (by rw [HR.out,HDR.out,folS_cons,if_pos (by simpa using hin)])
      have HF2:Hid (mea xs (pars.drop (k + 1)) cur<=f/\((q + mea xs (pars.drop (k + 1)) cur:Nat):Int)<=900000):=hid (by
       have h2:=HF.out
       rw [HDR.out] at h2
       have h3:=mea_pop' xs (pars.drop (k + 1)) cur (p1,p2)
       omega)
      clear HR HF HDR hin HEL
      go_wp2_with fail
      (with_reducible refine (HIN.out).mono ?_)
      rintro e w6 ⟨rfl,hb⟩
      have HB6:=hid (HB.out.trans (hb.mono HB.out.size))
      have HK6:=hid (HK.out.below hb)
      have HP6:=hid (HPX.out.ahead hb)
      have HD6:=hid (HD.out.ahead hb)
      clear hb HIN HB HK HPX HD q0 q1 o0 o1 o2 o3 o4 o5 o6 o7 o8
      go_wp2_with fail
      go_roundw
      case rel=>exact ⟨k + 1,cur,ca,cc,q,by omega,rfl,HQ,hqc,by go_num,HD6,HB6,HK6,HP6,HR2,HF2⟩
      case measure=>simp [intOf] <;> omega
     | false=>
      rw [hin] at HIN
      have hni:(p1,p2) ∉ cur:=by simpa using hin
      have HNI:=hid hni
      clear hin hni
      go_wp2_with fail
      (with_reducible refine (HIN.out).mono ?_)
      rintro e w6 ⟨rfl,hb⟩
      have HB6:=hid (HB.out.trans (hb.mono HB.out.size))
      have HK6:=hid (HK.out.below hb)
      have HP6:=hid (HPX.out.ahead hb)
      have HD6:=hid (HD.out.ahead hb)
      clear hb HIN HB HK HPX HD q0 q1 o0 o1 o2 o3 o4 o5 o6 o7 o8
      obtain ⟨q0,q1⟩:=HEL.out w6 HP6.out
      obtain ⟨zv1,z1,za,zc,z3,H11,H12,hb1,HF1⟩:=snD1 (c1:=cc) HD6.out p1 p2 (by rw [<-HQ.out]; exact hql) HQ.out.symm
      obtain ⟨yv1,y1,ya,yc,y3,H21,H22,hb2,HF2⟩:=snD2 (c1:=cc) HD6.out p1 p2 (by rw [<-HQ.out]; exact hql) HQ.out.symm
      obtain ⟨tv1,t1',ta,tc,t3,H31,H32,hb3,HF3⟩:=snD3 (c1:=cc) HD6.out p1 p2 (by rw [<-HQ.out]; exact hql) HQ.out.symm
      obtain ⟨zq0,zq1⟩:=HEL.out z1 (HP6.out.ahead hb1)
      have o5:w6.cell? ⟨u2.heap.size,5,none⟩=some (.slice (some ⟨b0,of0,none⟩) n pc):=by rw [HK6.out.cell]; rfl
      have zo5:z1.cell? ⟨u2.heap.size,5,none⟩=some (.slice (some ⟨b0,of0,none⟩) n pc):=by rw [(HK6.out.below hb1).cell]; rfl
      have o5a:=fun o=>cell_a1 o5 o
      have q0a:=fun o=>cell_a1 q0 o
      have q1a:=fun o=>cell_a1 q1 o
      clear hb1 hb2 hb3
      go_wp2_with fail
      go_region_law
       (first
       | ((with_reducible refine step_at ((w6.alloc (.cells #[] 41)).drew) ?_); refine step_append_run (by rfl) (.tmp 34) (.tmp 35) _ _ (by rfl) _ _ (by rfl) (by rfl) _ _ H11.out ?_)
       | ((with_reducible refine step_at (((w6.alloc (.cells #[] 41)).alloc (.cells #[.int .u64 p1,.int .u64 p2] 41)).drew) ?_); refine step_append_run (by rfl) (.tmp 34) (.tmp 35) _ _ (by rfl) _ _ (by rfl) (by rfl) _ _ H21.out ?_)
       | ((with_reducible refine step_at (((w6.alloc (.cells #[.int .u64 p1,.int .u64 p2] 41)).alloc (.cells #[] 41)).drew) ?_); refine step_append_run (by rfl) (.tmp 34) (.tmp 35) _ _ (by rfl) _ _ (by rfl) (by rfl) _ _ H31.out ?_)
       | ((with_reducible refine step_at (z1.alloc (.cells #[.int .u64 p1,.int .u64 p2] 41)) ?_); refine step_append_run (by rfl) (.tmp 36) (.tmp 42) _ _ (by rfl) _ _ (by rfl) (by rfl) _ _ H12.out ?_)
       | ((with_reducible refine step_at y1 ?_); refine step_append_run (by rfl) (.tmp 36) (.tmp 42) _ _ (by rfl) _ _ (by rfl) (by rfl) _ _ H22.out ?_)
       | ((with_reducible refine step_at t1' ?_); refine step_append_run (by rfl) (.tmp 36) (.tmp 42) _ _ (by rfl) _ _ (by rfl) (by rfl) _ _ H32.out ?_)
       | fail)
      all_goals
       first
       | ((with_reducible refine at_exit z3 ?_); have HF9:=HF1; clear HF1 HF2 HF3 H11 H12 H21 H22 H31 H32 zq0 zq1 zo5 o5a q0a q1a; (generalize z3=w9 at HF9 ⊢); (generalize za=qa at HF9 ⊢); (generalize zc=qc at HF9 ⊢))
       | ((with_reducible refine at_exit y3 ?_); have HF9:=HF2; clear HF1 HF2 HF3 H11 H12 H21 H22 H31 H32 zq0 zq1 zo5 o5a q0a q1a; (generalize y3=w9 at HF9 ⊢); (generalize ya=qa at HF9 ⊢); (generalize yc=qc at HF9 ⊢))
       | ((with_reducible refine at_exit t3 ?_); have HF9:=HF3; clear HF1 HF2 HF3 H11 H12 H21 H22 H31 H32 zq0 zq1 zo5 o5a q0a q1a; (generalize t3=w9 at HF9 ⊢); (generalize ta=qa at HF9 ⊢); (generalize tc=qc at HF9 ⊢))
      all_goals
       have HB9:=hid (HB6.out.trans (HF9.out.2.2.mono HB6.out.size))
       have HK9:=hid (HK6.out.below HF9.out.2.2)
       have HP9:=hid (HP6.out.ahead HF9.out.2.2)
       have HL9:Hid (q + 1=(cur ++ [(p1,p2)]).length):=hid (by rw [List.length_append,HQ.out]; rfl)
       have HD9:=hid (own_digs HL9.out HF9.out.1)
       have hqc9:=HF9.out.2.1
       have HGO:Hid (mea xs ((commitS xs (p1,p2)).1.pars ++ pars.drop (k + 1)) (cur ++ [(p1,p2)]) + 1<=mea xs (pars.drop k) cur):=hid (by rw [HDR.out]; exact mea_go HNI.out)
       have HLE:Hid (mea xs (commitS xs (p1,p2)).1.pars (cur ++ [(p1,p2)])<=mea xs ((commitS xs (p1,p2)).1.pars ++ pars.drop (k + 1)) (cur ++ [(p1,p2)])):=hid (by unfold mea; rw [List.length_append]; omega)
       have HV:=hid (HIH.out _ (by have:=HGO.out; have:=HLE.out; have:=HF.out.1; omega) qa (cur ++ [(p1,p2)]) qc p1 p2 w9 (HP.out.ahead HB9.out) HD9.out (by rw [<-HL9.out]; exact hqc9) (by rw [<-HL9.out]; have:=HGO.out; have:=HLE.out; have:=HF.out.2; omega) (Nat.le_refl _))
       rw [<-HL9.out] at HV
       have HR2:Hid (R=folS xs (pars.drop (k + 1)) (folS xs (commitS xs (p1,p2)).1.pars (cur ++ [(p1,p2)]))):=hid (by rw [HR.out,HDR.out,folS_one xs _ _ _ HNI.out])
       have HF2:Hid (mea xs (pars.drop (k + 1)) (folS xs (commitS xs (p1,p2)).1.pars (cur ++ [(p1,p2)]))<=f/\(((folS xs (commitS xs (p1,p2)).1.pars (cur ++ [(p1,p2)])).length + mea xs (pars.drop (k + 1)) (folS xs (commitS xs (p1,p2)).1.pars (cur ++ [(p1,p2)])):Nat):Int)<=900000):=hid (by
        have h2:=folS_mea xs (pars.drop (k + 1)) _ _ (cur ++ [(p1,p2)]) (Nat.le_refl (mea xs (commitS xs (p1,p2)).1.pars (cur ++ [(p1,p2)])))
        have h3:=folS_le xs _ _ (cur ++ [(p1,p2)]) (Nat.le_refl (mea xs (commitS xs (p1,p2)).1.pars (cur ++ [(p1,p2)])))
        have h4:=HGO.out
        have h5:=HF.out
        have h6:=HL9.out
        omega)
       generalize folS xs (commitS xs (p1,p2)).1.pars (cur ++ [(p1,p2)])=L2 at HV HR2 HF2
       clear HF9 HB6 HK6 HP6 HD6 HGO HLE HR HF HDR HD9 HL9 HNI o5 q0 q1
       obtain ⟨q0,q1⟩:=HEL.out w9 HP9.out
       have o5:w9.cell? ⟨u2.heap.size,5,none⟩=some (.slice (some ⟨b0,of0,none⟩) n pc):=by rw [HK9.out.cell]; rfl
       clear HEL
       go_wp2_with fail
       refine (HV.out).mono ?_
       rintro e w10 ⟨da,dc,rfl,hdg,hdc,hb⟩
       have HB10:=hid (HB9.out.trans (hb.mono HB9.out.size))
       have HK10:=hid (HK9.out.below hb)
       have HP10:=hid (HP9.out.ahead hb)
       have HD10:=hid hdg
       obtain ⟨q2,hq2⟩:∃ q2,q2=L2.length:=⟨_,rfl⟩
       rw [<-hq2] at HF2 hdc ⊢
       have HQ2:=hid hq2
       clear hb hdg hq2 HV HB9 HK9 HP9 q0 q1 o5
       go_wp2_with fail
       go_roundw
       case rel=>exact ⟨k + 1,L2,da,dc,q2,by omega,rfl,HQ2,hdc,by go_num,HD10,HB10,HK10,HP10,HR2,HF2⟩
       case measure=>simp [intOf] <;> omega
    ·have HX2:Hid (R=cur):=hid (by rw [HR.out,List.drop_of_length_le (by have:=HNP.out; omega),folS_nil])
     have hkn:¬ (k:Int) < (n:Int):=by omega
     clear HR HF
     go_wp2_with fail
     go_ret
     rw [HX2.out]
     exact ⟨ca,cc,by first | (rw [<-HQ.out]; done) | (rw [<-HQ.out]; rfl),HD.out,by rw [<-HQ.out]; exact hqc,HB.out⟩
  ·have hee:(er != 0)=true:=by simpa using he
   have HX2:Hid (R=seen):=hid (by rw [HR.out,HNO.out he,folS_nil])
   have HB3:Hid (Below w.heap.size w u3):=hid (by rw [hu3]; exact HB2.out.alloc HB2.out.size _)
   rw [hu3] at HB3
   clear HR HF HSL HPL hu3
   go_wp2_with fail
   go_ret
   rw [HX2.out]
   exact ⟨sa,sc,by first | (rw [<-HM.out]; done) | (rw [<-HM.out]; rfl),HS.out.ahead HB3.out,by rw [<-HM.out]; exact hsc,HB3.out⟩
theorem rcycle_any (a:Option Addr) (xs:List Itm) (c:Nat) (w:World) (hp:Its w.heap.size w a xs) (hA:Asc xs) (hn:(xs.length:Int)<=500) (hd:∀ x ∈ xs,(x.data.length:Int)<=1000000) :
  Calls Tryz.prog 76 #[.slice a xs.length c] w fun e w'=>e = .returned (.bool (cycS xs))/\Below w.heap.size w w':=by
 have HFO:=hid (fun d1 d2 W (hW:Its W.heap.size W a xs)=>rfollow_any a xs c hA (by omega) hd (mea xs (commitS xs (d1,d2)).1.pars []) none [] 0 d1 d2 W hW (Digs.nil _ _ _) (Nat.le_refl _) (by
  have h1:(commitS xs (d1,d2)).1.pars.length<=200:=by
   by_cases h:(commitS xs (d1,d2)).2=0
   ·exact pars_le h
   ·rw [no_pars h]; simp
  unfold mea
  have h2:=List.countP_le_length (p:=fun x:Itm=>!decide (x.d ∈ ([]:List (Int × Int)))) (l:=xs)
  simp only [List.length_nil]
  omega) (Nat.le_refl _))
 have HLN:Hid (∀ d,(folS xs (commitS xs d).1.pars []).length<=600000):=hid (fun d=>by
  have h1:(commitS xs d).1.pars.length<=200:=by
   by_cases h:(commitS xs d).2=0
   ·exact pars_le h
   ·rw [no_pars h]; simp
  have h3:=folS_mea xs [] _ (commitS xs d).1.pars [] (Nat.le_refl _)
  rw [List.append_nil] at h3
  have h2:=List.countP_le_length (p:=fun x:Itm=>!decide (x.d ∈ ([]:List (Int × Int)))) (l:=xs)
  have h4:mea xs (commitS xs d).1.pars []<=500200:=by unfold mea; omega
  simp only [List.length_nil] at h3
  omega)
 have HP:=hid hp
 obtain ⟨R,hR⟩:∃ R,R=cycS xs:=⟨_,rfl⟩
 rw [<-hR]
 have HR:=hid hR
 obtain ⟨n,hnn⟩:∃ n,n=xs.length:=⟨_,rfl⟩
 rw [<-hnn] at HFO hn ⊢
 have HN:=hid hnn
 simp only [List.length_nil] at HFO
 clear hp hA hd hR hnn
 go_enter Tryz.func76,Tryz.ntmps76
 go_wp2_with fail
 go_loopw [3] (fun i wr=>∃ k:Nat,k<=n/\i = .int .i64 k/\Hid (Below w.heap.size w wr)/\Hid (∀ j (h:j < xs.length),j < k->xs[j].d ∉ folS xs (commitS xs xs[j].d).1.pars [])) (fun i _=>n - (intOf i).toNat)
 case atStart=>exact ⟨0,by omega,rfl,hid (Below.refl _ _),hid (fun j h hj=>by omega)⟩
 case round=>
  obtain ⟨k,hk,rfl,HB,HJ⟩:=hrel
  have hws:=HB.out.size
  by_cases hlt:k < n
  ·have h1:k < xs.length:=by rw [<-HN.out]; exact hlt
   obtain ⟨p0,o0,haa,hp0,q0,q1,_⟩:=(HP.out.ahead HB.out) k h1
   have HIT:=hid (HP.out.ahead HB.out)
   have HAA:=hid haa
   subst haa
   have HMM:Hid (xs[k] ∈ xs):=hid (List.getElem_mem h1)
   have HJ2:Hid (xs[k].d ∉ folS xs (commitS xs xs[k].d).1.pars []->∀ j (h:j < xs.length),j < k + 1->xs[j].d ∉ folS xs (commitS xs xs[j].d).1.pars []):=hid (fun hno j h hj=>by
    rcases Nat.lt_or_ge j k with h2 | h2
    ·exact HJ.out j h h2
    ·obtain rfl:j=k:=by omega
     exact hno)
   generalize xs[k]=it at q0 q1 HMM HJ2
   obtain ⟨⟨d1,d2⟩,dt⟩:=it
   simp only at q0 q1 HMM HJ2
   have HFO1:=hid (fun W (hW:Below wr.heap.size wr W)=>HFO.out d1 d2 W (HIT.out.ahead hW))
   have hln:=HLN.out (d1,d2)
   have HRT:Hid ((d1,d2) ∈ folS xs (commitS xs (d1,d2)).1.pars []->R=true):=hid (fun h=>by
    rw [HR.out]
    unfold cycS
    rw [List.any_eq_true]
    exact ⟨_,HMM.out,by simpa using h⟩)
   generalize folS xs (commitS xs (d1,d2)).1.pars []=L at HFO1 HJ2 HRT hln
   have HIN:=hid (fun fa fc W (h:Digs W.heap.size W fa L)=>rin_any fa L fc d1 d2 W h (by omega))
   have HALL:Hid (∀ W,Below wr.heap.size wr W->Below wr.heap.size wr W/\W.cell? ⟨p0,o0 + k * 3,none⟩=some (.int .u64 d1)/\W.cell? ⟨p0,o0 + k * 3 + 1,none⟩=some (.int .u64 d2)):=hid (fun W hW=>⟨hW,(hW.cell (p:=⟨p0,o0 + k * 3,none⟩) hp0).trans q0,(hW.cell (p:=⟨p0,o0 + k * 3 + 1,none⟩) hp0).trans q1⟩)
   have hs0:=HALL.out wr.drew ((Below.refl _ _).drew)
   have hkn:(k:Int) < (n:Int):=by omega
   clear HIT HMM HR
   cases hin:decide ((d1,d2) ∈ L) with
   | true=>
    rw [hin] at HIN
    have HX:=hid (HRT.out (by simpa using hin))
    clear HJ2 HRT hin
    go_wp2_with fail
    go_region_held3 (fun W=>Below wr.heap.size wr W/\W.cell? ⟨p0,o0 + k * 3,none⟩=some (.int .u64 d1)/\W.cell? ⟨p0,o0 + k * 3 + 1,none⟩=some (.int .u64 d2))
     (first | exact hs0 | assumption | (refine HALL.out _ (Below.trans ?_ (Below.mono ‹Below _ _ _› ?_)) <;> first | assumption | exact hs0.1 | exact hs0.1.size | exact (‹Below wr.heap.size wr _/\_›).1 | exact (‹Below wr.heap.size wr _/\_›).1.size))
     (first | ((with_reducible refine (HFO1.out _ hs0.1).mono ?_); rintro e W3 ⟨fa,fc,rfl,hdg,hfc,hb⟩) | ((with_reducible refine (HIN.out _ _ _ hdg).mono ?_); rintro e W4 ⟨rfl,hb4⟩) | fail)
    all_goals
     clear hs0
     go_wp2_with fail
     go_ret
     exact ⟨by rw [HX.out]; rfl,HB.out.trans ((‹Below wr.heap.size wr _/\_›).1.mono hws)⟩
   | false=>
    rw [hin] at HIN
    have HJ3:=hid (HJ2.out (by simpa using hin))
    clear HJ2 HRT hin
    go_wp2_with fail
    go_region_held3 (fun W=>Below wr.heap.size wr W/\W.cell? ⟨p0,o0 + k * 3,none⟩=some (.int .u64 d1)/\W.cell? ⟨p0,o0 + k * 3 + 1,none⟩=some (.int .u64 d2))
     (first | exact hs0 | assumption | (refine HALL.out _ (Below.trans ?_ (Below.mono ‹Below _ _ _› ?_)) <;> first | assumption | exact hs0.1 | exact hs0.1.size | exact (‹Below wr.heap.size wr _/\_›).1 | exact (‹Below wr.heap.size wr _/\_›).1.size))
     (first | ((with_reducible refine (HFO1.out _ hs0.1).mono ?_); rintro e W3 ⟨fa,fc,rfl,hdg,hfc,hb⟩) | ((with_reducible refine (HIN.out _ _ _ hdg).mono ?_); rintro e W4 ⟨rfl,hb4⟩) | fail)
    all_goals
     clear hs0
     have HBN:=hid (HB.out.trans ((‹Below wr.heap.size wr _/\_›).1.mono hws))
     go_wp2_with fail
     go_roundw
     case rel=>exact ⟨k + 1,by omega,by go_num,HBN,HJ3⟩
     case measure=>simp [intOf] <;> omega
  ·have HX:Hid (R=false):=hid (by
    rw [HR.out]
    unfold cycS
    rw [List.any_eq_false]
    intro x hx
    obtain ⟨j,hj,rfl⟩:=List.getElem_of_mem hx
    simpa using HJ.out j hj (by have:=HN.out; omega))
   have hkn:¬ (k:Int) < (n:Int):=by omega
   clear HJ
   go_wp2_with fail
   go_ret
   exact ⟨by rw [HX.out]; rfl,HB.out⟩
open Go.RowKit Go.Shelf Go.Sort
theorem get_mem' {xs:List Itm} (ha:Asc xs) {x:Itm} (hx:x ∈ xs):getS xs x.d=decodeS x.data:=by
 obtain ⟨k,hk,rfl⟩:=List.getElem_of_mem hx
 have hh:hitB xs xs[k].d k=true:=by unfold hitB; rw [List.getElem?_eq_getElem hk]; simp
 obtain ⟨_,_,h⟩:=getS_hit (at_uniq ha hk rfl) hh
 exact h
def exO (t:Int) (ps:List (Int × Int)):Ob:=⟨3,[],[],(1,1),ps,[97,110,110],t,[]⟩
theorem ok_ex (t:Int) {ps:List (Int × Int)} (h:∀ d ∈ ps,OkD d):OkO (exO t ps):=⟨(⟨⟨by decide,by decide⟩,by decide,by decide⟩:OkD (1,1)),h,fun e he=>by simp [exO] at he⟩
theorem wrapU_ok' (x:Int):u64B (IntKind.u64.wrap x):=by
 rw [wrap_u64]
 unfold u64B
 omega
theorem bits_ok' (op:BinOp) (x y:Int):u64B (bits op .u64 x y):=by
 unfold bits
 exact wrapU_ok' _
theorem fold_ok' {f:Int->UInt8->Int} (hf:∀ x c,u64B (f x c)):∀ (l:List UInt8) (x:Int),u64B x->u64B (l.foldl f x)
 | [],_,h=>h
 | c :: l,x,_=>by rw [List.foldl_cons]; exact fold_ok' hf l _ (hf x c)
theorem digS_ok' (l:List UInt8):OkD (digS l):=by
 unfold digS
 split
 ·exact ⟨⟨by decide,by decide⟩,by decide,by decide⟩
 ·exact ⟨fold_ok' (fun x c=>wrapU_ok' _) l _ ⟨by decide,by decide⟩,fold_ok' (fun x c=>bits_ok' _ _ _) l _ ⟨by decide,by decide⟩⟩
theorem digS_ne' (l:List UInt8):digS l ≠ (0,0):=by
 unfold digS
 split
 ·intro h; cases h
 ·rename_i h1
  intro h
  simp only [Prod.mk.injEq] at h
  exact h1 h
structure ExV (A B C D:Int × Int) (TA TB TC TD:List UInt8):Prop where
 eA:encodeS (exO 1 [])=(TA,0)
 eB:encodeS (exO 2 [A])=(TB,0)
 eC:encodeS (exO 3 [A])=(TC,0)
 eD:encodeS (exO 4 [B,C])=(TD,0)
 dA:A=digS TA
 dB:B=digS TB
 dC:C=digS TC
 dD:D=digS TD
 oA:OkD A
 oB:OkD B
 oC:OkD C
 oD:OkD D
 ab:A ≠ B
 ac:A ≠ C
 ad:A ≠ D
 bc:B ≠ C
 bd:B ≠ D
 cd:C ≠ D
 nz:A ≠ (0,0)
structure ExP (A B C D:Int × Int) (TA TB TC TD:List UInt8) (P:List Itm):Prop where
 v:ExV A B C D TA TB TC TD
 asc:Asc P
 mem:∀ y,y ∈ P ↔ y=⟨A,TA⟩\/y=⟨B,TB⟩\/y=⟨C,TC⟩\/y=⟨D,TD⟩
section
variable {P:List Itm} {A B C D:Int × Int} {TA TB TC TD:List UInt8}
theorem com_of {o:Ob} {T:List UInt8} (ha:Asc P) (hm:(⟨digS T,T⟩:Itm) ∈ P) (he:encodeS o=(T,0)) (ho:OkO o) (hk:o.kind=3):commitS P (digS T)=(o,0):=by
 have h1:getS P (digS T)=decodeS T:=get_mem' (x:=⟨digS T,T⟩) ha hm
 unfold commitS
 rw [h1,decode_put he ho]
 simp [hk]
theorem ExP.cA (h:ExP A B C D TA TB TC TD P):commitS P A=(exO 1 [],0):=by
 have:=com_of h.asc (by rw [<-h.v.dA]; exact (h.mem _).2 (.inl rfl)) h.v.eA (ok_ex _ (by simp)) rfl
 rwa [<-h.v.dA] at this
theorem ExP.cB (h:ExP A B C D TA TB TC TD P):commitS P B=(exO 2 [A],0):=by
 have:=com_of h.asc (by rw [<-h.v.dB]; exact (h.mem _).2 (.inr (.inl rfl))) h.v.eB (ok_ex _ (by simp; exact h.v.oA)) rfl
 rwa [<-h.v.dB] at this
theorem ExP.cC (h:ExP A B C D TA TB TC TD P):commitS P C=(exO 3 [A],0):=by
 have:=com_of h.asc (by rw [<-h.v.dC]; exact (h.mem _).2 (.inr (.inr (.inl rfl)))) h.v.eC (ok_ex _ (by simp; exact h.v.oA)) rfl
 rwa [<-h.v.dC] at this
theorem ExP.cD (h:ExP A B C D TA TB TC TD P):commitS P D=(exO 4 [B,C],0):=by
 have:=com_of h.asc (by rw [<-h.v.dD]; exact (h.mem _).2 (.inr (.inr (.inr rfl)))) h.v.eD (ok_ex _ (by simp; exact ⟨h.v.oB,h.v.oC⟩)) rfl
 rwa [<-h.v.dD] at this
theorem ExP.dig (h:ExP A B C D TA TB TC TD P) {d:Int × Int} (hd:(commitS P d).2=0):d=A\/d=B\/d=C\/d=D:=by
 obtain ⟨x,hx,rfl,_⟩:=getS_good (commit_ok hd).1
 rcases (h.mem x).1 hx with rfl | rfl | rfl | rfl
 ·exact .inl rfl
 ·exact .inr (.inl rfl)
 ·exact .inr (.inr (.inl rfl))
 ·exact .inr (.inr (.inr rfl))
def exR (A B C d:Int × Int):Nat:=if d=A then 0 else if d=B\/d=C then 1 else 2
theorem exR_A (v:ExV A B C D TA TB TC TD):exR A B C A=0:=by simp [exR]
theorem exR_B (v:ExV A B C D TA TB TC TD):exR A B C B=1:=by simp [exR,v.ab.symm]
theorem exR_C (v:ExV A B C D TA TB TC TD):exR A B C C=1:=by simp [exR,v.ac.symm]
theorem exR_D (v:ExV A B C D TA TB TC TD):exR A B C D=2:=by simp [exR,v.ad.symm,v.bd.symm,v.cd.symm]
theorem ExP.rk (h:ExP A B C D TA TB TC TD P) {d p:Int × Int} (hd:(commitS P d).2=0) (hp:p ∈ (commitS P d).1.pars):exR A B C p < exR A B C d:=by
 rcases h.dig hd with rfl | rfl | rfl | rfl
 ·rw [h.cA] at hp; simp [exO] at hp
 ·rw [h.cB] at hp; simp [exO] at hp; subst hp; rw [exR_A h.v,exR_B h.v]; omega
 ·rw [h.cC] at hp; simp [exO] at hp; subst hp; rw [exR_A h.v,exR_C h.v]; omega
 ·rw [h.cD] at hp; simp [exO] at hp
  rcases hp with rfl | rfl
  ·rw [exR_B h.v,exR_D h.v]; omega
  ·rw [exR_C h.v,exR_D h.v]; omega
theorem ExP.anc (h:ExP A B C D TA TB TC TD P) {a b:Int × Int} (ha:Anc P a b):exR A B C b<=exR A B C a:=by
 induction ha with
 | refl=>exact Nat.le_refl _
 | step h1 h2 _ ih=>have:=h.rk h1 h2; omega
theorem ExP.acy (h:ExP A B C D TA TB TC TD P):AcyS P:=fun d p hd hp ha=>by
 have h1:=h.rk hd hp
 have h2:=h.anc ha
 omega
theorem vis_step {d:Int × Int} {o:Ob} {st met:List (Int × Int)} (h:commitS P d=(o,0)) (hm:d ∉ met):visS P (d :: st) met=visS P (o.pars ++ st) (met ++ [d]):=by
 rw [visS_cons,if_neg hm,if_neg (by rw [h]; simp),h]
theorem ExP.depA (h:ExP A B C D TA TB TC TD P):depS P A=0:=by rw [depS_eq h.acy,h.cA]; rfl
end
def validS (xs:List Itm):Bool:=!pgreatS xs && (decide (checkP xs=0) && !cycS xs)
structure HV (xs:List Itm):Prop where
 le:xs.length<=40
 dat:∀ x ∈ xs,x.data.length<=500
 asc:Asc xs
 acy:AcyS xs
theorem validS_true {xs:List Itm} (h:validS xs=true):HV xs:=by
 simp only [validS,Bool.and_eq_true,Bool.not_eq_true',decide_eq_true_eq] at h
 obtain ⟨h1,h2⟩:=pgreatS_false h.1
 exact ⟨h1,h2,(checkP_zero h.2.1).2,acy_of h.2.2⟩
theorem HV.pin {xs:List Itm} (h:HV xs) {W:World} {a:Option Addr} {c:Nat} (hi:Its W.heap.size W a xs) (hc:xs.length<=c):PoolIn W a xs c:=⟨hi,hc,by have:=h.le; omega,fun x hx=>by have:=h.dat x hx; omega⟩
section
variable {xs:List Itm} {a b c:Int × Int} {hs:List (Int × Int)}
theorem vis_anc (h:(visS xs hs []).2=0) {d:Int × Int}:d ∈ (visS xs hs []).1 ↔ ∃ s ∈ hs,Anc xs s d:=(visS_anc h).2 d
theorem vis_anc1 (h:(visS xs [a] []).2=0) {d:Int × Int}:d ∈ (visS xs [a] []).1 ↔ Anc xs a d:=by
 rw [vis_anc h]
 constructor
 ·rintro ⟨s,h1,h2⟩; rw [List.mem_singleton] at h1; subst h1; exact h2
 ·intro h1; exact ⟨a,by simp,h1⟩
theorem vis_ok (h:(visS xs hs []).2=0) {d:Int × Int} (hd:d ∈ (visS xs hs []).1):(commitS xs d).2=0:=by
 rcases (visS_law xs _ hs [] (Nat.le_refl _) h).ok d hd with h1 | h1
 ·simp at h1
 ·exact h1
theorem vis_sub (h:(visS xs hs []).2=0) {gs:List (Int × Int)} (hb:∀ g ∈ gs,g ∈ (visS xs hs []).1):(visS xs gs []).2=0:=by
 by_cases h2:(visS xs gs []).2=0
 ·exact h2
 ·obtain ⟨_,s,h3,d,h4,_,h5⟩:=visS_bad xs _ gs [] (Nat.le_refl _) h2
  have h6:=hb s h3
  rw [vis_anc h] at h6
  obtain ⟨t,ht,h7⟩:=h6
  have h8:=vis_ok h ((vis_anc h).2 ⟨t,ht,h7.trans h4⟩)
  rw [h8] at h5
  exact absurd h5.symm h2
theorem anc_mem (h:(visS xs hs []).2=0) {d:Int × Int}:d ∈ (ancS xs hs).1 ↔ ∃ s ∈ hs,Anc xs s d:=by
 unfold ancS
 rw [if_neg (by simpa using h)]
 simp only
 rw [(sortH_perm _ _).mem_iff,vis_anc h]
theorem ancS_ok (h:(visS xs hs []).2=0):(ancS xs hs).2=0:=by unfold ancS; rw [if_neg (by simpa using h)]
theorem ancS_err (h:(visS xs hs []).2 ≠ 0):ancS xs hs=([],(visS xs hs []).2):=by unfold ancS; rw [if_pos h]
theorem reachesS_ok (h:(visS xs [a] []).2=0):reachesS xs a b=(decide (b ∈ (visS xs [a] []).1),0):=by unfold reachesS; rw [if_neg (by simpa using h)]
end
open Go.RowKit
theorem dsame (a b:Option Addr) (ds es:List (Int × Int)) (ca cb:Nat) (w:World) (ha:Digs w.heap.size w a ds) (hb:Digs w.heap.size w b es) (hn:(ds.length:Int)<=140737488355328) :
  Calls Tryz.prog 87 #[.slice a ds.length ca,.slice b es.length cb] w fun e w'=>e = .returned (.bool (decide (ds=es)))/\∃ q,w' = w.drewN q:=by
 obtain ⟨n,hnn⟩:∃ n,n=ds.length:=⟨_,rfl⟩
 obtain ⟨m,hmm⟩:∃ m,m=es.length:=⟨_,rfl⟩
 obtain ⟨R,hR⟩:∃ R:Bool,R=decide (ds=es):=⟨_,rfl⟩
 rw [<-hnn] at hn
 rw [<-hnn,<-hmm,<-hR]
 have HN:=hid hnn
 have HM:=hid hmm
 have HR:=hid hR
 have HA:=hid ha
 have HB:=hid hb
 clear hnn hmm hR ha hb
 by_cases hnm:n=m
 ·subst hnm
  have t0:((n:Int) != (n:Int))=false:=by simp
  go_enter Tryz.func87,Tryz.ntmps87
  go_wp2_with fail
  go_loopw [5] (fun i wr=>∃ k q:Nat,k<=n/\i = .int .i64 k/\wr=w.drewN q/\ds.take k=es.take k) (fun i _=>n - (intOf i).toNat)
  case atStart=>exact ⟨0,0,by omega,rfl,rfl,rfl⟩
  case round=>
   obtain ⟨k,q,hk,rfl,rfl,hrel⟩:=hrel
   have HT:=hid hrel
   clear hrel
   by_cases hlt:k < n
   ·have h1:k < ds.length:=by rw [<-HN.out]; exact hlt
    have h2:k < es.length:=by rw [<-HM.out]; exact hlt
    obtain ⟨b1,o1,rfl,_,c1,c2⟩:=HA.out k h1
    obtain ⟨b2,o2,rfl,_,c3,c4⟩:=HB.out k h2
    obtain ⟨x,hx⟩:∃ x,x=ds[k].1:=⟨_,rfl⟩
    obtain ⟨y,hy⟩:∃ y,y=ds[k].2:=⟨_,rfl⟩
    obtain ⟨x',hx'⟩:∃ x,x=es[k].1:=⟨_,rfl⟩
    obtain ⟨y',hy'⟩:∃ y,y=es[k].2:=⟨_,rfl⟩
    rw [<-hx] at c1
    rw [<-hy] at c2
    rw [<-hx'] at c3
    rw [<-hy'] at c4
    have HE:Hid (ds[k]=es[k] ↔ x=x'/\y=y'):=hid (by rw [hx,hy,hx',hy',Prod.ext_iff])
    clear hx hy hx' hy'
    have hq:=fun W=>neq_dig x y x' y' W
    by_cases he:x=x'/\y=y'
    ·have hv:(!(x == x' && y == y'))=false:=by simp [he.1,he.2]
     have HT2:=hid (take_eq_step HT.out h1 h2 (HE.out.2 he))
     rw [hv] at hq
     clear he hv HT HE
     go_wp2_with fail
     go_quiet (fail)
     go_wp2_with fail
     go_roundw
     case rel=>exact ⟨k + 1,_,by omega,by go_num,by first | rfl | (simp only [World.drewN_drewN]; rfl),HT2.out⟩
     case measure=>simp [intOf]; omega
    ·have hv:(!(x == x' && y == y'))=true:=by
      by_cases h4:x=x' <;> by_cases h5:y=y' <;> simp [h4,h5] at he ⊢
     have HF:Hid (R=false):=hid (by
      rw [HR.out,decide_eq_false_iff_not]
      intro h
      subst h
      exact he (HE.out.1 rfl))
     rw [hv] at hq
     clear he hv HT HE
     go_wp2_with fail
     go_quiet (fail)
     go_wp2_with fail
     go_ret
     exact ⟨by rw [HF.out]; rfl,_,by first | rfl | (simp only [World.drewN_drewN]; rfl)⟩
   ·have HF:Hid (R=true):=hid (by
     rw [HR.out,decide_eq_true_iff]
     have:=HT.out
     rwa [List.take_of_length_le (by rw [<-HN.out]; omega),List.take_of_length_le (by rw [<-HM.out]; omega)] at this)
    go_wp2_with fail
    go_ret
    exact ⟨by rw [HF.out]; rfl,_,rfl⟩
 ·have t0:((n:Int) != (m:Int))=true:=by simp; omega
  have HF:Hid (R=false):=hid (by
   rw [HR.out,decide_eq_false_iff_not]
   intro h
   exact hnm (by rw [HN.out,HM.out,h]))
  clear hnm
  go_enter Tryz.func87,Tryz.ntmps87
  go_wp2_with fail
  go_ret
  exact ⟨by rw [HF.out]; rfl,0,rfl⟩
theorem same13_any (a b:Option Addr) (ds es:List (Int × Int)) (ca cb:Nat) (w:World) (ha:Digs w.heap.size w a ds) (hb:Digs w.heap.size w b es) (hn:(ds.length:Int)<=140737488355328) :
  Calls Tryz.prog 39 #[.slice a ds.length ca,.slice b es.length cb] w fun e w'=>e = .returned (.bool (decide (ds=es)))/\Below w.heap.size w w':=by
 have HS:=hid (dsame a b ds es ca cb w ha hb hn)
 generalize decide (ds=es)=R at HS ⊢
 generalize ds.length=n at HS ⊢
 generalize es.length=m at HS ⊢
 clear ha hb hn
 go_enter Tryz.func39,Tryz.ntmps39
 go_wp2_with fail
 (with_reducible refine (HS.out).mono ?_)
 rintro e u ⟨rfl,q,rfl⟩
 go_wp2_with fail
 go_ret
 exact ⟨rfl,below_drewN (Below.refl _ w) _⟩
end Go.Proofs.YtfdahmicigpnoaaGreat
