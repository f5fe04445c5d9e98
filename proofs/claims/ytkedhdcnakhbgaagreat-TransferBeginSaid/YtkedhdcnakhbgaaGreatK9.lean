/- Joined texts: RpH, RpI, RpJ, RpK, RpL, RpM, RpN. -/
import Derived.Test.YtkedhdcnakhbgaaGreatK8
/- The reference's Put,Add,Keep,Union. -/
set_option linter.unusedSimpArgs false
set_option maxRecDepth 100000
set_option maxHeartbeats 16000000
namespace Go.Proofs.YtkedhdcnakhbgaaGreat
open Go.RowKit Go.Shelf
set_option linter.unusedVariables false
variable {d:Int×Int}{x:Itm}{xs:List Itm}
theorem yS:Asc (x::xs)↔Asc xs/\∀y∈xs,eO x.d y.d<0:=by
 constructor
 ·intro h
  refine⟨fun i j C B A=>?_,fun y F=>?_⟩
  ·have:=h (i+1) (j+1) (by simp; omega) (by simp; omega) (by omega)
   simpa using this
  ·obtain⟨j,B,rfl⟩:=aV F
   have:=h 0 (j+1) (by simp) (by simp; omega) (by omega);simpa using this
 ·rintro⟨D,E⟩ i j C B A
  cases i with
  | zero=>
   cases j with
   | zero=>omega
   | succ j=>simp only[aS,bK]; exact E _ (ak _)
  | succ i=>
   cases j with
   | zero=>omega
   | succ j=>simp only[bK]; exact D i j (by simp at C; omega) (by simp at B; omega) (by omega)
theorem Md(h:Asc xs){y:Itm}(E:x∈xs)(F:y∈xs)(B:x.d=y.d):x=y:=by
 obtain⟨i,C,rfl⟩:=aV E;obtain⟨j,D,rfl⟩:=aV F;rcases Nat.lt_trichotomy i j with A | A | A
 ·have:=h i j C D A; rw[B,fO] at this; omega
 ·subst A; rfl
 ·have:=h j i D C A; rw[B,fO] at this; omega
theorem Gz(h:Asc xs)(p:Itm->Bool):Asc (xs.filter p):=by
 induction xs with
 | nil=>exact fun i j C=>by simp at C
 | cons x xs ih=>
  obtain⟨A,B⟩:=yS.1 h;rw[kK];split
  ·exact yS.2 ⟨ih A,fun y D=>B y (List.mem_filter.1 D).1⟩
  ·exact ih A
theorem EI:∀{xs:List Itm} {p:Option (Int×Int)},(∀x∈xs,vg x=0)->Asc xs->(∀q,p=some q->∀x∈xs,eO q x.d<0)->vR p xs=0
 | [],p,_,_,_=>by cases p <;> rfl
 | x::xs,p,B,C,D=>by
  obtain⟨E,F⟩:=yS.1 C;rw[vR,if_neg (by simpa using B x (by simp)),if_neg]
  ·exact EI (fun y A=>B y (by simp[A])) E (fun q G y A=>by cases G; exact F y A)
  ·cases p with
   | none=>simp[vO]
   | some q=>
    have:=D q rfl x (by simp);have:=iZ (a:=x.d) (b:=q);simp[vO];omega
theorem FX{o:Ob}(h:(aR o).2=0):gG o=((o.ents.map (·.d))++(if o.kind=3 then[o.tree] else[]))++o.pars:=by
 unfold gG;rw[if_neg (by simpa using h)];by_cases B:o.kind=3
 ·simp[B]
 ·have A:=(fA (kG h)).1
  have E:=eP A;have D:o.pars=[]:=by
   by_cases C:o.kind=1\/o.kind=4
   ·rw[mh A C]; rfl
   ·rw[(jO A (by omega)).1]; rfl
  simp[B,D]
theorem own_empty(W:World)(base:Nat)(e:TypeId)(z:Nat)(h:base<=W.heap.size):(W.alloc (.cells #[] e)).ownsRow base e z (.slice (some ⟨W.heap.size,0,none⟩) 0 0) 0 []:=by
 refine⟨by simp,.inr ⟨W.heap.size,0,#[],rfl,h,BK.new W #[] e,nr,by unfold maxLen; omega,by simp,by simp⟩⟩
theorem rlinks_any(o:Ob)(ea:Qa)(ec:Nat)(pa:Qa)(pc:Nat)(w:World)(h:Dw w o ea ec pa pc)(H:ObB o)(C3:OkO o):
  Qh 124 #[o.val ea ec pa pc] w (Oa w (gG o)):=by
 have HC:=Qf (fun W (hW:PM w W)=>FH o ea ec pa pc W (h.below hW) C3);obtain⟨R,hR⟩:=Qe (gG o);have P:=Qf (fun h=>hR.trans (FX (o:=o) h));have A0:Qg ((aR o).2≠0->R=[]):=Qf (fun he=>by rw[hR]; unfold gG; rw[if_pos he]);rw[<-hR];clear hR C3;generalize (aR o).2=er at HC P A0;have C2:=H.elen;have C4:=H.plen;have B7:=Qf h.ents;have B2:=Qf h.pars;clear h H;obtain⟨kind,data,ents,⟨t1,t2⟩,pars,author,time,msg⟩:=o;simp only[Ob.val] at HC P C2 C4 B7 B2 ⊢;obtain⟨ne,F⟩:=Qe ents.length;obtain⟨n,B3⟩:=Qe pars.length;rw[<-F] at HC C2 ⊢;rw[<-B3] at HC C4 ⊢;have Q:=Qf F;have A2:=Qf B3;clear F B3;obtain⟨u,hu⟩:=Qe (w.alloc (.cells #[.int .i64 kind,.string ⟨data.toArray⟩,.slice ea ne ec,.int .u64 t1,.int .u64 t2,.slice pa n pc,.string ⟨author.toArray⟩,.int .i64 time,.string ⟨msg.toArray⟩] 59));have B9:Qg (BK w.heap.size #[.int .i64 kind,.string ⟨data.toArray⟩,.slice ea ne ec,.int .u64 t1,.int .u64 t2,.slice pa n pc,.string ⟨author.toArray⟩,.int .i64 time,.string ⟨msg.toArray⟩] 59 u):=Qf (by rw[hu]; exact BK.new _ _ _);have B6:Qg (PM w u):=Qf (by rw[hu]; exact ba w _);have C8:u.heap.size=w.heap.size+1:=by rw[hu]; simp
 have HU:=Qf hu;clear hu;obtain⟨u0,J⟩:=Qe (u.alloc (.cells #[] 54));have B8:Qg (BK w.heap.size #[.int .i64 kind,.string ⟨data.toArray⟩,.slice ea ne ec,.int .u64 t1,.int .u64 t2,.slice pa n pc,.string ⟨author.toArray⟩,.int .i64 time,.string ⟨msg.toArray⟩] 59 u0):=Qf (by rw[J]; exact B9.o.alloc _);have L:Qg (PM w u0):=Qf (by rw[J]; exact B6.o.alloc (by omega) _);have B1:Qg (u0.ownsRow (w.heap.size+1) 54 2 (.slice (some ⟨w.heap.size+1,0,none⟩) 0 0) 0 []):=Qf (by rw[J,<-C8]; exact own_empty _ _ _ _ nr);have M:=Qf (HC.o u0 L.o);rw[J] at M;rw[HU.o] at M;have A3:=Qf J;have D5:u0.heap.size=w.heap.size+2:=by rw[J]; simp; omega
 clear J;by_cases he:er=0
 ·subst he
  have HR:=Qf (P.o rfl);clear P A0 HC;go_enter Tryz.func124,Tryz.ntmps124;go_wp2_with fail
  refine M.o.mono ?_;rintro e u2 ⟨rfl,H⟩
  rw[<-HU.o] at H;rw[<-A3.o] at H;have A1:=Qf (B8.o.below H);have E:=Qf (L.o.trans (H.mono L.o.size));have C:=Qf (own_below B1.o H);have C7:w.heap.size+1<=u2.heap.size:=by have:=H.size; omega
  clear H M HU A3 B8 L B1 D5 C8 B9 B6 u0 u;go_wp2_with fail;go_loopw [3,4] (fun v i wr=>∃k:Nat,k<=ne/\i=.int .i64 k/\w.heap.size+1<=wr.heap.size/\Qg (wr.ownsRow (w.heap.size+1) 54 2 v ((ents.take k).map (·.d)).length (aW ((ents.take k).map (·.d))))/\Qg (PM w wr)/\Qg (BK w.heap.size #[.int .i64 kind,.string ⟨data.toArray⟩,.slice ea ne ec,.int .u64 t1,.int .u64 t2,.slice pa n pc,.string ⟨author.toArray⟩,.int .i64 time,.string ⟨msg.toArray⟩] 59 wr)) (fun _ i _=>ne-(intOf i).toNat)
  case atStart=>exact⟨0,by omega,rfl,C7,C,E,A1⟩
  case round=>
   clear A1 E C C7;obtain⟨k,hk,rfl,D4,Z,HB,HK⟩:=hrel;have N:((ents.take k).map (·.d)).length=k:=by rw[fC,aA]; have:=Q.o; omega
   obtain⟨av,cv,rfl,K⟩:=aB Z.out;obtain⟨e0,e1,e2,e3,e4,e5,e6,e7,e8⟩:=BK.c9 HK.out;by_cases D9:k<ne
   ·have h1:k<ents.length:=by have:=Q.o; omega
    obtain⟨b0,o0,rfl,D8,q0,q1,q2,q3⟩:=(B7.o.below HB.out nr) k h1;have B0:=Qf (ym ents k h1);generalize ents[k]=en at q0 q1 q2 q3 B0;obtain⟨nm,dir,d1,d2⟩:=en;simp only at q0 q1 q2 q3 B0;obtain⟨v',W',A7,X,A4,C1⟩:=gz Z.out d1 d2 (by omega) (by omega);have F:(Value.slice av ((ents.take k).map (·.d)).length cv).ownBlock≠some w.heap.size:=fun hh=>by have:=(Z.out.lt _ hh).1; omega
    have C:Qg (W'.ownsRow (w.heap.size+1) 54 2 v' ((ents.take (k+1)).map (·.d)).length (aW ((ents.take (k+1)).map (·.d)))):=Qf (by rw[B0.o]; exact X);have E:Qg (PM w W'):=Qf ((HB.out.alloc (by omega) _).grown A4 (by simp; omega) (fun j V=>by have:=(Z.out.lt _ V).1; omega));have A1:=Qf ((HK.out.alloc _).grow A4 (fun j V e=>F (by rw[V,e])));have C6:w.heap.size+1<=W'.heap.size:=by have:=A4.size; simp at this; omega
    have A6:=Qf A7;clear A7 X A4 C1 N F;generalize ((ents.take k).map (·.d)).length=m at A6 K ⊢;go_wp2_with (at_builtin; refine Lib.wpList_append_run _ rfl _ _ _ _ rfl _ _ rfl rfl _ _ A6.o ?_);go_roundw
    case rel=>exact⟨k+1,by omega,by go_num,C6,C,E,A1⟩
    case measure=>simp[intOf] <;> omega
   ·have T:ents.take k=ents:=ag (by have:=Q.o; omega)
    rw[T] at Z K N ⊢;clear T;by_cases h3:kind=3
    ·subst h3
     rw[if_pos rfl] at HR;obtain⟨v1,W1,Y,I,A5,_⟩:=gz Z.out t1 t2 (by omega) (by omega);have F:(Value.slice av (ents.map (·.d)).length cv).ownBlock≠some w.heap.size:=fun hh=>by have:=(Z.out.lt _ hh).1; omega
     have O:Qg (PM w W1):=Qf ((HB.out.alloc (by omega) _).grown A5 (by simp; omega) (fun j V=>by have:=(Z.out.lt _ V).1; omega));have c5:W1.cell? ⟨w.heap.size,5,none⟩=some (.slice pa n pc):=by
      have D2:=(HK.out.alloc _).grow A5 (fun j V e=>F (by rw[V,e]));rw[D2.cell]; rfl
     obtain⟨v2,W2,B,D,U,_⟩:=dM W1 (w.heap.size+1) 24 v1 _ I pa pars pc ((B2.o.below O.o nr).mono O.o.size) (by simp; have:=A2.o; have:=Q.o; simp at N; omega) (by have:=A5.size; simp at this; omega);have E:Qg (PM w W2):=Qf (O.o.grown U O.o.size (fun j V=>by have:=(I.lt _ V).1; omega));rw[<-A2.o] at B;have S:=Qf Y;have G:=Qf B;have C:=Qf D;clear Y B I D A5 U O N F;generalize (ents.map (·.d)).length=m at S K ⊢;have tok1:True:=trivial;go_wp2_with (at_builtin; first | (have _t:=tok1; refine Lib.wpList_append_run _ rfl _ _ _ _ rfl _ _ rfl rfl _ _ S.o ?_; clear _t tok1) | (refine Lib.wpList_append_run _ rfl _ _ _ _ rfl _ _ rfl rfl _ _ G.o ?_));obtain⟨a2,cap2,rfl,_⟩:=aB C.o;go_ret;rw[HR.o];exact⟨a2,cap2,rfl,mP C.o (by omega),E.o⟩
    ·rw[if_neg h3,bG] at HR
     have e3:(kind==3)=false:=by simpa using h3
     obtain⟨v2,W2,B,D,U,_⟩:=dM wr (w.heap.size+1) 24 _ _ Z.out pa pars pc ((B2.o.below HB.out nr).mono HB.out.size) (by simp; have:=A2.o; have:=Q.o; simp at N; omega) D4;have E:Qg (PM w W2):=Qf (HB.out.grown U HB.out.size (fun j V=>by have:=(Z.out.lt _ V).1; omega));rw[<-A2.o] at B;have G:=Qf B;have C:=Qf D;clear h3 N B D U;generalize (ents.map (·.d)).length=m at G K ⊢;go_wp2_with (at_builtin; refine Lib.wpList_append_run _ rfl _ _ _ _ rfl _ _ rfl rfl _ _ G.o ?_);obtain⟨a2,cap2,rfl,_⟩:=aB C.o;go_ret;rw[HR.o];exact⟨a2,cap2,rfl,mP C.o (by omega),E.o⟩
 ·have HR:=Qf (A0.o he)
  have F:(er !=0)=true:=by simpa using he
  clear P A0 HC he;go_enter Tryz.func124,Tryz.ntmps124;go_wp2_with fail
  refine M.o.mono ?_;rintro e u2 ⟨rfl,H⟩
  rw[<-HU.o] at H;rw[<-A3.o] at H;have E:=Qf (L.o.trans (H.mono L.o.size));have C:=Qf (own_below B1.o H);clear H M HU A3;go_wp2_with fail;go_ret;rw[HR.o];exact⟨_,_,rfl,mP C.o (by omega),E.o⟩
open Go.RowKit Go.Shelf Go.Sort
inductive Rch (xs:List Itm) (roots:Qd):Int×Int->Prop
 | root {d:Int×Int}:d∈roots->d≠(0,0)->Rch xs roots d
 | link {d l:Int×Int}:Rch xs roots d->(dW xs d).2=0->l∈gG (dW xs d).1->l≠(0,0)->Rch xs roots l
structure Sea (xs:List Itm) (roots op T M:Qd):Prop where
 o:∀d∈op,d≠(0,0)->Rch xs roots d
 t:∀d∈T,Rch xs roots d/\(dW xs d).2=0
 m:∀d∈M,Rch xs roots d/\(dW xs d).2≠0
 rt:∀d∈roots,d=(0,0)\/d∈T\/d∈M\/d∈op
 ln:∀d∈T,∀l∈gG (dW xs d).1,l=(0,0)\/l∈T\/l∈M\/l∈op
theorem Sea.start(xs:List Itm)(roots:Qd):Sea xs roots roots [] []:=
 ⟨fun d A B=>.root A B,fun d h=>(by simp at h),fun d h=>(by simp at h),fun d h=>.inr (.inr (.inr h)),fun d h=>(by simp at h)⟩
theorem Sea.step{xs:List Itm}{roots op T M op' T' M':Qd}(h:Sea xs roots op T M)
  (C:∀x,x∈op\/x∈T\/x∈M->x=(0,0)\/x∈T'\/x∈M'\/x∈op')
  (N:∀x∈T',x∈T\/(x∈op/\x≠(0,0)/\(dW xs x).2=0))
  (J:∀x∈M',x∈M\/(x∈op/\x≠(0,0)/\(dW xs x).2≠0))
  (L:∀x∈op',x∈op\/∃t∈T',x∈gG (dW xs t).1)
  (K:∀t∈T',t∉T->∀l∈gG (dW xs t).1,l=(0,0)\/l∈T'\/l∈M'\/l∈op'):Sea xs roots op' T' M':=by
 have F:∀d∈T',Rch xs roots d/\(dW xs d).2=0:=fun d B=>by
  rcases N d B with A | ⟨A,D,E⟩
  ·exact h.t d A
  ·exact⟨h.o d A D,E⟩
 refine⟨fun d B I=>?_,F,fun d B=>?_,fun d B=>?_,fun d B l G=>?_⟩
 ·rcases L d B with A | ⟨t,A,D⟩
  ·exact h.o d A I
  ·exact .link (F t A).1 (F t A).2 D I
 ·rcases J d B with A | ⟨A,D,E⟩
  ·exact h.m d A
  ·exact⟨h.o d A D,E⟩
 ·rcases h.rt d B with A | A | A | A
  ·exact .inl A
  ·exact C d (.inr (.inl A))
  ·exact C d (.inr (.inr A))
  ·exact C d (.inl A)
 ·by_cases H:d∈T
  ·rcases h.ln d H l G with A | A | A | A
   ·exact .inl A
   ·exact C l (.inr (.inl A))
   ·exact C l (.inr (.inr A))
   ·exact C l (.inl A)
  ·exact K d B H l G
theorem Sea.done{roots T M:Qd}(h:Sea xs roots [] T M)(d:Int×Int):(d∈T↔Rch xs roots d/\(dW xs d).2=0)/\(d∈M↔Rch xs roots d/\(dW xs d).2≠0):=by
 have key:∀d,Rch xs roots d->d∈T\/d∈M:=by
  intro d D;induction D with
  | root A E=>
   rcases h.rt _ A with B | B | B | B
   ·exact absurd B E
   ·exact .inl B
   ·exact .inr B
   ·simp at B
  | link A E B F ih=>
   rcases ih with ih | ih
   ·rcases h.ln _ ih _ B with C | C | C | C
    ·exact absurd C F
    ·exact .inl C
    ·exact .inr C
    ·simp at C
   ·exact absurd E (h.m _ ih).2
 refine⟨⟨h.t d,fun D=>?_⟩,⟨h.m d,fun D=>?_⟩⟩
 ·rcases key d D.1 with A | A
  ·exact A
  ·exact absurd D.2 (h.m d A).2
 ·rcases key d D.1 with A | A
  ·exact absurd (h.t d A).2 D.2
  ·exact A
theorem wS{R:Qd}(h:R.Nodup)(C:d∉R):(R++[d]).Nodup:=by
 rw[List.nodup_append];refine⟨h,by simp,fun a B b A e=>?_⟩;simp at A;exact C (by rw[<-A,<-e]; exact B)
theorem lK(xs:List Itm)(roots:Qd):∀(f:Nat) (op met R M:Qd),Sea xs roots op R M->(∀d,d∈met↔d=(0,0)\/d∈R\/d∈M)->R.Nodup->M.Nodup->mea xs op met<=f->
  Sea xs roots [] (fI xs f op met R M).1 (fI xs f op met R M).2/\(fI xs f op met R M).1.Nodup/\(fI xs f op met R M).2.Nodup
 | 0,op,met,R,M,h,F,D,E,J=>by
  have:op=[]:=by unfold mea at J; exact aU (by omega)
  subst this;exact⟨h,D,E⟩
 | f+1,op,met,R,M,h,F,D,E,J=>by
  rcases iI op with rfl | ⟨l,d,rfl⟩
  ·rw[wE]; exact⟨h,D,E⟩
  ·rw[iJ] at h J ⊢
   have C:∀x,x∈l++[d]↔x∈l\/x=d:=fun x=>by simp
   by_cases G:d∈met
   ·rw[wF G]
    refine lK xs roots f l met R M (h.step ?_ (fun x A=>.inl A) (fun x A=>.inl A) (fun x A=>.inl ((C x).2 (.inl A))) (fun t D E=>absurd D E)) F D E (by have:=qm xs l met d; omega);intro x A;rcases A with A | A | A
    ·rcases(C x).1 A with A | rfl
     ·exact .inr (.inr (.inr A))
     ·rcases(F x).1 G with B | B | B
      ·exact .inl B
      ·exact .inr (.inl B)
      ·exact .inr (.inr (.inl B))
    ·exact .inr (.inl A)
    ·exact .inr (.inr (.inl A))
   ·have O:d≠(0,0):=fun e=>G ((F d).2 (.inl e))
    have S:d∉R:=fun e=>G ((F d).2 (.inr (.inl e)))
    have Q:d∉M:=fun e=>G ((F d).2 (.inr (.inr e)))
    by_cases I:(dW xs d).2=0
    ·rw[wG G I]
     have K:((gG (dW xs d).1).filter fun l=>!decide (l∈d::met)).length<=200:=aC (List.length_filter_le _ _) (rZ _);refine lK xs roots f _ (d::met) (R++[d]) M (h.step ?_ ?_ (fun x A=>.inl A) ?_ ?_) (fun x=>?_) (wS D S) E (by have:=yj (op:=l) G I K; omega)
     ·intro x A
      rcases A with A | A | A
      ·rcases(C x).1 A with A | rfl
       ·exact .inr (.inr (.inr (by simp[A])))
       ·exact .inr (.inl (by simp))
      ·exact .inr (.inl (by simp[A]))
      ·exact .inr (.inr (.inl A))
     ·intro x A
      rcases aD.1 A with A | A
      ·exact .inl A
      ·simp at A; subst A; exact .inr ⟨(C x).2 (.inr rfl),O,I⟩
     ·intro x A
      rcases aD.1 A with A | A
      ·exact .inl ((C x).2 (.inl A))
      ·exact .inr ⟨d,by simp,(List.mem_filter.1 A).1⟩
     ·intro t U L l2 T
      have:t=d:=by
       rcases aD.1 U with B | B
       ·exact absurd B L
       ·simpa using B
      subst this;by_cases N:l2∈t::met
      ·rcases List.mem_cons.1 N with rfl | P
       ·exact .inr (.inl (by simp))
       ·rcases(F l2).1 P with H | H | H
        ·exact .inl H
        ·exact .inr (.inl (by simp[H]))
        ·exact .inr (.inr (.inl H))
      ·refine .inr (.inr (.inr (aD.2 (.inr (List.mem_filter.2 ⟨T,?_⟩)))))
       rw[decide_eq_false N]; rfl
     ·rw[List.mem_cons,F x,aD,aH]
      constructor
      ·rintro(B | B | B | B)
       ·exact .inr (.inl (.inr B))
       ·exact .inl B
       ·exact .inr (.inl (.inl B))
       ·exact .inr (.inr B)
      ·rintro(B | (B | B) | B)
       ·exact .inr (.inl B)
       ·exact .inr (.inr (.inl B))
       ·exact .inl B
       ·exact .inr (.inr (.inr B))
    ·rw[tN G I]
     refine lK xs roots f l (d::met) R (M++[d]) (h.step ?_ (fun x A=>.inl A) ?_ (fun x A=>.inl ((C x).2 (.inl A))) (fun t D E=>absurd D E)) (fun x=>?_) D (wS E Q) (by have:=yh xs l met d; omega)
     ·intro x A
      rcases A with A | A | A
      ·rcases(C x).1 A with A | rfl
       ·exact .inr (.inr (.inr A))
       ·exact .inr (.inr (.inl (by simp)))
      ·exact .inr (.inl A)
      ·exact .inr (.inr (.inl (by simp[A])))
     ·intro x A
      rcases aD.1 A with A | A
      ·exact .inl A
      ·simp at A; subst A; exact .inr ⟨(C x).2 (.inr rfl),O,I⟩
     ·rw[List.mem_cons,F x,aD,aH]
      constructor
      ·rintro(B | B | B | B)
       ·exact .inr (.inr (.inr B))
       ·exact .inl B
       ·exact .inr (.inl B)
       ·exact .inr (.inr (.inl B))
      ·rintro(B | B | B | B)
       ·exact .inr (.inl B)
       ·exact .inr (.inr (.inl B))
       ·exact .inr (.inr (.inr B))
       ·exact .inl B
def EX(l:Qd):Prop:=l.Pairwise fun x y=>eO x y<0
theorem yT:∀{xs ys:Qd},EX xs->EX ys->(∀x,x∈xs↔x∈ys)->xs=ys
 | [],[],_,_,_=>rfl
 | [],y::ys,_,_,A=>by have:=(A y).2 (by simp); simp at this
 | x::xs,[],_,_,A=>by have:=(A x).1 (by simp); simp at this
 | x::xs,y::ys,B,C,A=>by
  unfold EX at B C;rw[vW] at B C;have e:x=y:=by
   rcases List.mem_cons.1 ((A x).1 (by simp)) with h | h
   ·exact h
   ·rcases List.mem_cons.1 ((A y).2 (by simp)) with E | E
    ·exact E.symm
    ·have g1:=B.1 y E
     have g2:=C.1 x h;have:=iZ (a:=x) (b:=y);omega
  subst e;congr 1;refine yT B.2 C.2 fun z=>⟨fun D=>?_,fun D=>?_⟩
  ·rcases List.mem_cons.1 ((A z).1 (by simp[D])) with rfl | h
   ·have:=B.1 z D; rw[fO] at this; omega
   ·exact h
  ·rcases List.mem_cons.1 ((A z).2 (by simp[D])) with rfl | h
   ·have:=C.1 z D; rw[fO] at this; omega
   ·exact h
theorem zm{l:Qd}(h:l.Nodup):EX (kV l):=by
 have A:(kV l).Pairwise (fun x y=>(!(ltOf eO) y x)=true):=by
  unfold kV;refine List.pairwise_mergeSort (fun a b c A B=>?_) (fun a b=>?_) l
  ·simp only[Bool.not_eq_true'] at A B ⊢
   exact swoD.ntrans c b a B A
  ·unfold ltOf
   have g1:=bF a b;have g2:=bF b a;by_cases g:eO b a<0
   ·have:¬eO a b<0:=by omega
    simp[g,this]
   ·simp[g]
 have B:(kV l).Nodup:=(lJ l).nodup_iff.2 h;refine(A.and B).imp ?_;rintro x y ⟨C,D⟩;unfold ltOf at C;simp only[Bool.not_eq_true',decide_eq_false_iff_not] at C;have g1:=bF x y;have g2:=bF y x;have:¬eO x y=0:=fun e=>D (lv.1 e)
 omega
theorem gW(xs:List Itm)(roots:Qd):EX (dh xs roots).1/\EX (dh xs roots).2/\∀d,(d∈(dh xs roots).1↔Rch xs roots d/\(dW xs d).2=0)/\(d∈(dh xs roots).2↔Rch xs roots d/\(dW xs d).2≠0):=by
 obtain⟨A,B,C⟩:=lK xs roots (jC xs roots) roots [(0,0)] [] [] (Sea.start xs roots) (fun d=>by simp) (by simp) (by simp) (zY xs roots);unfold dh;refine⟨zm B,zm C,fun d=>?_⟩;simp only;rw[(lJ _).mem_iff,(lJ _).mem_iff];exact A.done d
theorem Ic(y:Int×Int)(l:Qd)(d:Int×Int):Mm (y::l) d=if eO y d<0 then Mm l d+1 else 0:=by
 unfold Mm;by_cases h:eO y d<0 <;> simp[h]
theorem pR(y:Int×Int)(l:Qd)(d:Int×Int):mE (y::l) d=if eO y d<0 then y::mE l d else if y=d then y::l else d::y::l:=by
 unfold mE;rw[Ic];by_cases h:eO y d<0
 ·rw[if_pos h,if_pos h]
  simp only[List.getElem?_cons_succ,jS,List.drop_succ_cons];split <;> rfl
 ·rw[if_neg h,if_neg h]
  simp
theorem eG:∀(l:Qd) (d x:Int×Int),x∈mE l d↔x∈l\/x=d
 | [],d,x=>by simp[mE,Mm]
 | y::l,d,x=>by
  rw[pR];by_cases h:eO y d<0
  ·rw[if_pos h,List.mem_cons,eG l d x,List.mem_cons,or_assoc]
  ·rw[if_neg h]
   by_cases B:y=d
   ·rw[if_pos B]
    refine⟨.inl,fun A=>?_⟩;rcases A with A | A
    ·exact A
    ·rw[A,<-B]; simp
   ·rw[if_neg B,List.mem_cons]
    exact or_comm
theorem tq:∀{l:Qd} (d:Int×Int),EX l->EX (mE l d)
 | [],d,_=>by simp[mE,Mm,EX]
 | y::l,d,h=>by
  rw[pR];have E:=h;unfold EX at h;rw[vW] at h;by_cases C:eO y d<0
  ·rw[if_pos C]
   refine vW.2 ⟨fun z D=>?_,tq d h.2⟩;rcases(eG l d z).1 D with A | rfl
   ·exact h.1 z A
   ·exact C
  ·rw[if_neg C]
   by_cases B:y=d
   ·rw[if_pos B]; exact E
   ·rw[if_neg B]
    have F:eO d y<0:=by
     have g0:¬eO y d=0:=fun e=>B (lv.1 e)
     have:=iZ (a:=d) (b:=y);omega
    refine vW.2 ⟨fun z D=>?_,E⟩;rcases List.mem_cons.1 D with rfl | A
    ·exact F
    ·exact qA F (h.1 z A)
def Cf(xs:List Itm):Nat->Qd->Qd->Qd->Qd×Qd
 | 0,_,T,M=>(T,M)
 | f+1,[],T,M=>(T,M)
 | f+1,d::ws,T,M=>if d=(0,0)\/d∈T then Cf xs f ws T M else if(dW xs d).2≠0 then Cf xs f ws T (mE M d) else Cf xs f (ws++gG (dW xs d).1) (mE T d) M
theorem KZ(xs:List Itm)(ws T:Qd)(d:Int×Int):mea xs (d::ws) T=mea xs (ws++[d]) T:=by
 unfold mea; simp
theorem KX(xs:List Itm)(ws T:Qd)(d:Int×Int):mea xs ws (mE T d)=mea xs ws (d::T):=by
 unfold mea;congr 3;funext x;congr 1;rw[decide_eq_decide,eG,List.mem_cons];exact or_comm
theorem rR(xs:List Itm)(roots:Qd):∀(f:Nat) (ws T M:Qd),Sea xs roots ws T M->EX T->EX M->mea xs ws T<=f->
  Sea xs roots [] (Cf xs f ws T M).1 (Cf xs f ws T M).2/\EX (Cf xs f ws T M).1/\EX (Cf xs f ws T M).2
 | 0,ws,T,M,h,B,C,G=>by
  have:ws=[]:=by unfold mea at G; exact aU (by omega)
  subst this;exact⟨h,B,C⟩
 | f+1,[],T,M,h,B,C,G=>by rw[Cf]; exact⟨h,B,C⟩
 | f+1,d::ws,T,M,h,B,C,G=>by
  rw[Cf];rw[KZ] at G;by_cases E:d=(0,0)\/d∈T
  ·rw[if_pos E]
   refine rR xs roots f ws T M (h.step ?_ (fun x A=>.inl A) (fun x A=>.inl A) (fun x A=>.inl (by simp[A])) (fun t B C=>absurd B C)) B C (by have:=qm xs ws T d; omega);intro x A;rcases A with A | A | A
   ·rcases List.mem_cons.1 A with rfl | A
    ·rcases E with D | D
     ·exact .inl D
     ·exact .inr (.inl D)
    ·exact .inr (.inr (.inr A))
   ·exact .inr (.inl A)
   ·exact .inr (.inr (.inl A))
  ·rw[if_neg E]
   have I:d≠(0,0):=fun e=>E (.inl e)
   have J:d∉T:=fun e=>E (.inr e)
   by_cases F:(dW xs d).2=0
   ·rw[if_neg (by simpa using F)]
    refine rR xs roots f _ (mE T d) M (h.step ?_ ?_ (fun x A=>.inl A) ?_ ?_) (tq d B) C (by have:=yj (op:=ws) J F (rZ (dW xs d).1); rw[KX]; omega)
    ·intro x A
     rcases A with A | A | A
     ·rcases List.mem_cons.1 A with rfl | A
      ·exact .inr (.inl ((eG _ _ _).2 (.inr rfl)))
      ·exact .inr (.inr (.inr (by simp[A])))
     ·exact .inr (.inl ((eG _ _ _).2 (.inl A)))
     ·exact .inr (.inr (.inl A))
    ·intro x A
     rcases(eG _ _ _).1 A with A | rfl
     ·exact .inl A
     ·exact .inr ⟨by simp,I,F⟩
    ·intro x A
     rcases aD.1 A with A | A
     ·exact .inl (by simp[A])
     ·exact .inr ⟨d,(eG _ _ _).2 (.inr rfl),A⟩
    ·intro t L H l2 K
     rcases(eG _ _ _).1 L with D | rfl
     ·exact absurd D H
     ·exact .inr (.inr (.inr (aD.2 (.inr K))))
   ·rw[if_pos F]
    refine rR xs roots f ws T (mE M d) (h.step ?_ (fun x A=>.inl A) ?_ (fun x A=>.inl (by simp[A])) (fun t B C=>absurd B C)) B (tq d C) (by have:=qm xs ws T d; omega)
    ·intro x A
     rcases A with A | A | A
     ·rcases List.mem_cons.1 A with rfl | A
      ·exact .inr (.inr (.inl ((eG _ _ _).2 (.inr rfl))))
      ·exact .inr (.inr (.inr A))
     ·exact .inr (.inl A)
     ·exact .inr (.inr (.inl ((eG _ _ _).2 (.inl A))))
    ·intro x A
     rcases(eG _ _ _).1 A with A | rfl
     ·exact .inl A
     ·exact .inr ⟨by simp,I,F⟩
theorem Nr(xs:List Itm)(roots:Qd):mea xs roots []<=jC xs roots:=by
 have:xs.countP (fun x=>!decide (x.d∈([]:Qd)))<=xs.length:=List.countP_le_length;unfold mea jC;omega
theorem Na(xs:List Itm)(roots:Qd):Cf xs (jC xs roots) roots [] []=dh xs roots:=by
 obtain⟨A,B,C⟩:=rR xs roots (jC xs roots) roots [] [] (Sea.start xs roots) (List.Pairwise.nil) (List.Pairwise.nil) (Nr xs roots);obtain⟨g1,g2,g3⟩:=gW xs roots;refine Prod.ext (yT B g1 fun d=>?_) (yT C g2 fun d=>?_)
 ·rw[(A.done d).1,(g3 d).1]
 ·rw[(A.done d).2,(g3 d).2]
def GotDD(w:World)(r:Qd×Qd)(e:Ending)(w':World):Prop:=
 ∃a c a' c',e=.returned (.tuple #[.slice a r.1.length c,.slice a' r.2.length c'])/\dE w'.heap.size w' a r.1/\dE w'.heap.size w' a' r.2/\PM w w'
theorem withS_len:∀(l:Qd) (d:Int×Int),(mE l d).length<=l.length+1
 | [],d=>by simp[mE,Mm]
 | y::l,d=>by
  rw[pR];have:=withS_len l d;split
  ·simp; omega
  ·split <;> simp
structure RMem (w wr:World) (ta:Qa) (tc:Nat) (ma:Qa) (mc:Nat) (v:Value) (WL T M:Qd):Prop where
 dt:dE wr.heap.size wr ta T
 dm:dE wr.heap.size wr ma M
 tc:T.length<=tc
 mc:M.length<=mc
 ow:wr.ownsRow w.heap.size 54 2 v WL.length (aW WL)
 at':∀ad,ta=some ad->ad.block<wr.heap.size/\v.ownBlock≠some ad.block
 am:∀ad,ma=some ad->ad.block<wr.heap.size/\v.ownBlock≠some ad.block
 be:PM w wr
section
variable {w wr W':World} {ta ma a:Qa} {tc mc c:Nat} {v v':Value} {WL T M T' M' WL':Qd}
theorem RMem.below(h:RMem w wr ta tc ma mc v WL T M)(A:PM wr W'):RMem w W' ta tc ma mc v WL T M:=
 ⟨h.dt.ahead A,h.dm.ahead A,h.tc,h.mc,own_below h.ow A,fun ad e=>⟨aO (h.at' ad e).1 A.size,(h.at' ad e).2⟩,fun ad e=>⟨aO (h.am ad e).1 A.size,(h.am ad e).2⟩,h.be.trans (A.mono h.be.size)⟩
theorem RMem.alloc(h:RMem w wr ta tc ma mc v WL T M)(o:Obj):RMem w (wr.alloc o) ta tc ma mc v WL T M:=h.below (ba _ _)
theorem digs_lt{B:Nat}{W:World}{ds:Qd}(h:dE B W a ds)(D:d∈ds):∀ad,a=some ad->ad.block<B:=by
 intro ad e;obtain⟨b,off,A,C,_⟩:=h 0 (List.length_pos_of_mem D);rw[A] at e;cases e;exact C
theorem RMem.new(h:RMem w wr ta tc ma mc v WL T M)(I:PM wr W'){L:Qd}{pa:Qa}(B:∀ad,pa=some ad->ad.block<wr.heap.size/\v.ownBlock≠some ad.block)(D:dE W'.heap.size W' a L)(E:d∈L)(F:a=pa\/∀ad,a=some ad->wr.heap.size<=ad.block):∀ad,a=some ad->ad.block<W'.heap.size/\v.ownBlock≠some ad.block:=by
 intro ad e;refine⟨digs_lt D E ad e,fun C=>?_⟩;rcases F with A | A
 ·exact(B ad (by rw[<-A,e])).2 C
 ·have G:=(h.ow.lt _ C).2
  have H:=A ad e;omega
theorem RMem.putT(h:RMem w wr ta tc ma mc v WL T M)(A:PM wr W')(B:dE W'.heap.size W' a T')(C:T'.length<=c)(D:d∈T')(E:a=ta\/∀ad,a=some ad->wr.heap.size<=ad.block):RMem w W' a c ma mc v WL T' M:=
 have g:=h.below A
 ⟨B,g.dm,C,g.mc,g.ow,h.new A h.at' B D E,g.am,g.be⟩
theorem RMem.putM(h:RMem w wr ta tc ma mc v WL T M)(A:PM wr W')(B:dE W'.heap.size W' a M')(C:M'.length<=c)(D:d∈M')(E:a=ma\/∀ad,a=some ad->wr.heap.size<=ad.block):RMem w W' ta tc a c v WL T M':=
 have g:=h.below A
 ⟨g.dt,B,g.tc,C,g.ow,g.at',h.new A h.am B D E,g.be⟩
theorem RMem.push(h:RMem w wr ta tc ma mc v WL T M)(A:W'.ownsRow w.heap.size 54 2 v' WL'.length (aW WL'))(B:wr.grownBy W' v.ownBlock)(D:v'.ownBlock=v.ownBlock\/v'.ownBlock=some wr.heap.size):RMem w W' ta tc ma mc v' WL' T M:=by
 have key:∀ad:Addr,(ad.block<wr.heap.size/\v.ownBlock≠some ad.block)->ad.block<W'.heap.size/\v'.ownBlock≠some ad.block:=fun ad E=>by
  refine⟨aO E.1 B.size,fun e=>?_⟩;rcases D with C | C
  ·exact E.2 (by rw[<-C]; exact e)
  ·rw[C] at e
   have:=Option.some.inj e;omega
 exact⟨h.dt.kept B (fun _ ad e=>(h.at' ad e).2),h.dm.kept B (fun _ ad e=>(h.am ad e).2),h.tc,h.mc,A,fun ad e=>key ad (h.at' ad e),fun ad e=>key ad (h.am ad e),gM h.be h.ow B nr⟩
end
structure REq (xs:List Itm) (R:Qd×Qd) (F f j:Nat) (WL T M:Qd):Prop where
 kl:j<=WL.length
 eq:R=Cf xs f (WL.drop j) T M
 me:mea xs (WL.drop j) T<=f
 jf:j+f<=F
 tm:T.length+M.length+f<=F
section
variable {xs:List Itm} {R:Qd×Qd} {F f j:Nat} {WL T M:Qd}
theorem REq.len(h:REq xs R F f j WL T M):WL.length<=F:=by
 have A:=h.me;have B:=h.jf;have C:=h.kl;unfold mea at A;rw[ah] at A;omega
theorem REq.pos(h:REq xs R F f j WL T M)(B:j<WL.length):∃g,f=g+1:=by
 have A:=h.me;unfold mea at A;rw[ah] at A;exact⟨f-1,by omega⟩
theorem REq.fin(h:REq xs R F f j WL T M)(A:¬j<WL.length):R=(T,M):=by
 rw[h.eq,dV (by omega)];cases f <;> rfl
theorem REq.skip(h:REq xs R F (f+1) j WL T M)(C:j<WL.length)(D:WL[j]=(0,0)\/WL[j]∈T):REq xs R F f (j+1) WL T M:=by
 have A:=h.eq;have B:=h.me;rw[aN C] at A B;rw[Cf,if_pos D] at A;rw[KZ] at B;have E:=qm xs (WL.drop (j+1)) T WL[j];exact⟨C,A,by omega,by have:=h.jf; omega,by have:=h.tm; omega⟩
theorem REq.miss(h:REq xs R F (f+1) j WL T M)(C:j<WL.length)(D:¬(WL[j]=(0,0)\/WL[j]∈T))(E:(dW xs WL[j]).2≠0):REq xs R F f (j+1) WL T (mE M WL[j]):=by
 have A:=h.eq;have B:=h.me;rw[aN C] at A B;rw[Cf,if_neg D,if_pos E] at A;rw[KZ] at B;have G:=qm xs (WL.drop (j+1)) T WL[j];exact⟨C,A,by omega,by have:=h.jf; omega,by have:=h.tm; have:=withS_len M WL[j]; omega⟩
theorem REq.hit(h:REq xs R F (f+1) j WL T M)(C:j<WL.length)(D:¬(WL[j]=(0,0)\/WL[j]∈T))(E:(dW xs WL[j]).2=0):REq xs R F f (j+1) (WL++gG (dW xs WL[j]).1) (mE T WL[j]) M:=by
 have A:=h.eq;have B:=h.me;rw[aN C] at A B;rw[Cf,if_neg D,if_neg (by simpa using E)] at A;rw[KZ] at B;have G:=yj (op:=WL.drop (j+1)) (fun e=>D (.inr e)) E (rZ (dW xs WL[j]).1);refine⟨by rw[af]; omega,?_,?_,by have:=h.jf; omega,by have:=h.tm; have:=withS_len T WL[j]; omega⟩
 ·rw[List.drop_append_of_le_length C]; exact A
 ·rw[List.drop_append_of_le_length C,KX]; exact Nat.le_of_succ_le_succ (aC G B)
end
def RY(xs:List Itm)(R:Qd×Qd)(F:Nat)(w:World)(f:Nat)(v6 v7 v8 iv:Value)(wr:World):Prop:=
 ∃j WL T M ta tc ma mc,v6=.slice ta T.length tc/\v7=.slice ma M.length mc/\iv=.int .i64 (j:Nat)/\RMem w wr ta tc ma mc v8 WL T M/\REq xs R F f j WL T M
theorem get_okO(h:(dW xs d).2=0):OkO (dW xs d).1:=by
 obtain⟨x,_,_,A⟩:=oW h;have B:bI x.data=((dW xs d).1,0):=by rw[A,<-h]
 exact(kI B).2
theorem rreach_any(a:Qa)(xs:List Itm)(c:Nat)(ra:Qa)(roots:Qd)(rc:Nat)(w:World)(hp:Its w.heap.size w a xs)(ha:Asc xs)(hr:dE w.heap.size w ra roots)(F5:(xs.length:Int)<=80)(F3:(roots.length:Int)<=10000)(hd:∀x∈xs,(x.data.length:Int)<=1000000):
  Qh 66 #[.slice a xs.length c,.slice ra roots.length rc] w (GotDD w (dh xs roots)):=by
 have HG:=Qf (fun d1 d2 W (hW:PM w W)=>KE a xs c d1 d2 W (hp.ahead hW) ha (by omega) hd);have F1:((jC xs roots:Nat):Int)<=90000:=by unfold jC; omega
 obtain⟨R,hR⟩:=Qe (dh xs roots);have C4:Qg (REq xs R (jC xs roots) (jC xs roots) 0 roots [] []):=Qf ⟨by omega,by rw[hR,<-Na]; rfl,Nr xs roots,by omega,by simp⟩;rw[<-hR];generalize jC xs roots=F at C4 F1;obtain⟨n,hn⟩:=Qe xs.length;obtain⟨rn,D3⟩:=Qe roots.length;obtain⟨w1,B6⟩:=Qe (w.alloc (.cells #[] 54));have B4:PM w w1:=by rw[B6]; exact ba w _
 have D2:w1.ownsRow w.heap.size 54 2 (.slice (some ⟨w.heap.size,0,none⟩) 0 0) 0 []:=by rw[B6]; exact own_empty _ _ _ _ nr
 obtain⟨v',W1,E,S,E0,B3⟩:=dM w1 w.heap.size 24 (.slice (some ⟨w.heap.size,0,none⟩) 0 0) [] D2 ra roots rc (hr.ahead B4) (by simp; omega) B4.size;have G:Qg (RMem w W1 none 0 none 0 v' roots [] []):=Qf ⟨dE.nil _ _ _,dE.nil _ _ _,nr,nr,S,fun ad e=>(by cases e),fun ad e=>(by cases e),gM B4 D2 E0 nr⟩;rw[<-D3,B6] at E;have N:=Qf E;rw[<-hn] at HG ⊢;rw[<-D3];clear hp ha hr hn D3 E S E0 B3 B4 D2 B6 hR F5 F3 hd w1;go_enter Tryz.func66,Tryz.ntmps66;go_wp2_with (at_builtin; refine Lib.wpList_append_run _ rfl _ _ _ _ rfl _ _ rfl rfl _ _ N.o ?_);go_loopg [6,7,8,9] F (fun k v6 v7 v8 iv wr=>Qg (RY xs R F w k v6 v7 v8 iv wr))
 case atStart=>exact Qf ⟨0,roots,[],[],none,0,none,0,rfl,rfl,rfl,G.o,C4.o⟩
 case round=>
  clear G C4 N;obtain⟨j,WL,T,M,ta,tc,ma,mc,rfl,rfl,rfl,hm,he⟩:=hrel.out;have HM:=Qf hm;have HE:=Qf he;clear hm he hrel;have H1:=HE.o.len;have H0:=HE.o.tm;obtain⟨wa,wc,rfl,F4⟩:=aB HM.o.ow;obtain⟨len,Q⟩:=Qe WL.length;have HL:=Qf Q;by_cases hj:j<WL.length
  ·obtain⟨gk2,rfl⟩:=HE.o.pos hj
   have P:=iy HM.o.ow;obtain⟨b0,o0,F0,G6,q0,q1⟩:=P j hj;subst F0;have Y:=Qf (fun h=>HE.o.skip hj h);have A5:=Qf (fun h1 h2=>HE.o.miss hj h1 h2);have A2:=Qf (fun h1 h2=>HE.o.hit hj h1 h2);have G7:j<len:=by omega
   have G8:j<90000:=by omega
   rw[<-Q] at F4 ⊢;clear P Q HE;generalize WL[j]=d at q0 q1 Y A5 A2;clear hj;obtain⟨d1,d2⟩:=d;simp only at q0 q1;obtain⟨u0,A8⟩:=Qe (wr.alloc (.cells #[.int .u64 d1,.int .u64 d2] 54));have G:Qg (RMem w u0 ta tc ma mc _ WL T M):=Qf (by rw[A8]; exact HM.o.alloc _);have B0:Qg (BK wr.heap.size #[.int .u64 d1,.int .u64 d2] 54 u0):=Qf (by rw[A8]; exact BK.new _ _ _);have K:=Qf (Hr ta T tc d1 d2 u0 G.o.dt (by omega));have hq:=fun W=>jD d1 d2 0 0 W
   rw[A8] at K;have Z:=Qf A8;clear A8 HM;cases hz:(d1==0&&d2==0) with
   | true=>
    rw[hz] at hq;have B:=Qf (Y.o (.inl (by simp only[Bool.and_eq_true,beq_iff_eq] at hz; rw[hz.1,hz.2])));clear Y A5 A2 hz K;have C:Qg (RY xs R F w gk2 (.slice ta T.length tc) (.slice ma M.length mc) (.slice (some ⟨b0,o0,none⟩) len wc) (.int .i64 ((j+1:Nat):Int)) u0):=Qf ⟨j+1,WL,T,M,ta,tc,ma,mc,rfl,rfl,rfl,by rw[HL.o]; exact G.o,B.o⟩;rw[Z.o] at C;rw[show(((j+1:Nat):Int))=(j:Int)+1 by omega] at C;clear G B Z B0;go_wp2_with fail;go_roundg gk2
    case measure=>omega
    case rel=>exact C
   | false=>
    rw[hz] at hq;have E2:(d1,d2)≠(0,0):=by
     intro e;simp only[Prod.mk.injEq] at e;simp[e.1,e.2] at hz
    cases A0:decide ((d1,d2)∈T) with
    | true=>
     rw[A0] at K;have B:=Qf (Y.o (.inr (by simpa using A0)));clear Y A5 A2 hz A0;go_wp2_with fail
     refine K.o.mono ?_;rintro e u1 ⟨rfl,D⟩
     rw[<-Z.o] at D;have C:Qg (RY xs R F w gk2 (.slice ta T.length tc) (.slice ma M.length mc) (.slice (some ⟨b0,o0,none⟩) len wc) (.int .i64 ((j+1:Nat):Int)) u1):=Qf ⟨j+1,WL,T,M,ta,tc,ma,mc,rfl,rfl,rfl,by rw[HL.o]; exact G.o.below D,B.o⟩;rw[show(((j+1:Nat):Int))=(j:Int)+1 by omega] at C;clear D K G B Z B0;go_wp2_with fail;go_roundg gk2
     case measure=>omega
     case rel=>exact C
    | false=>
     rw[A0] at K;have D1:¬((d1,d2)=(0,0)\/(d1,d2)∈T):=fun h=>by
      rcases h with h | h
      ·exact E2 h
      ·simp[h] at A0
     have L:=Qf (A5.o D1);have J:=Qf (A2.o D1);have A6:=Qf (fun h=>get_okO (xs:=xs) (d:=(d1,d2)) h);clear Y A5 A2 hz A0 E2 D1;have A9:=Qf (fun W hW=>HG.o d1 d2 W hW);generalize dW xs (d1,d2)=OE at A9 L J A6;obtain⟨o,er⟩:=OE;simp only at A9 L J A6;go_wp2_with fail
     refine K.o.mono ?_;rintro e u1 ⟨rfl,D⟩
     rw[<-Z.o] at D;have C8:=Qf (G.o.below D);have C5:=Qf (B0.o.below D);clear D K G B0 Z u0;obtain⟨e0,e1⟩:=BK.c2 C5.o;have D5:=Qf (A9.o u1 C8.o.be);go_wp2_with fail
     refine D5.o.mono ?_;rintro e u2 ⟨ea,ec,pa,pc,rfl,E1,D⟩
     have D7:=Qf (C8.o.below D);have B1:=Qf (C5.o.below D);have D9:=Qf E1;clear D E1 C8 C5 D5 A9 e0 e1;obtain⟨kind,data,ents,⟨t1,t2⟩,pars,author,time,msg⟩:=o;simp only[Ob.val];obtain⟨ne,B5⟩:=Qe ents.length;obtain⟨n,D0⟩:=Qe pars.length;rw[<-B5,<-D0];have E4:=Qf B5;have E5:=Qf D0;clear B5 D0;obtain⟨u3,A1⟩:=Qe (u2.alloc (.cells #[.int .i64 kind,.string ⟨data.toArray⟩,.slice ea ne ec,.int .u64 t1,.int .u64 t2,.slice pa n pc,.string ⟨author.toArray⟩,.int .i64 time,.string ⟨msg.toArray⟩] 59));have H:=Qf (D7.o.alloc (.cells #[.int .i64 kind,.string ⟨data.toArray⟩,.slice ea ne ec,.int .u64 t1,.int .u64 t2,.slice pa n pc,.string ⟨author.toArray⟩,.int .i64 time,.string ⟨msg.toArray⟩] 59));have D6:Qg (BK wr.heap.size #[.int .u64 d1,.int .u64 d2] 54 u3):=Qf (by rw[A1]; exact B1.o.alloc _);have C6:Qg (BK u2.heap.size #[.int .i64 kind,.string ⟨data.toArray⟩,.slice ea ne ec,.int .u64 t1,.int .u64 t2,.slice pa n pc,.string ⟨author.toArray⟩,.int .i64 time,.string ⟨msg.toArray⟩] 59 u3):=Qf (by rw[A1]; exact BK.new _ _ _);have X:Qg (dZ u1.heap.size u3 _ _ _ _ _):=Qf (by rw[A1]; exact D9.o.below (ba _ _));rw[<-A1] at H;have O:=Qf A1;obtain⟨e0,e1⟩:=BK.c2 B1.o;have p0:=fun z=>bP e0 z
     have p1:=fun z=>bP e1 z
     clear A1 D7 D9;by_cases he:er=0
     ·subst he
      have B:=Qf (J.o rfl);have I:=Qf (rwith_any ta T tc d1 d2 u3 H.o.dt H.o.tc (by omega));rw[O.o] at I;have V:=(eG T (d1,d2) (d1,d2)).2 (.inr rfl);have C1:=Qf (A6.o rfl);have F2:=rZ ⟨kind,data,ents,(t1,t2),pars,author,time,msg⟩;have D4:=Qf X.o.bb;clear L J A6;generalize mE T (d1,d2)=T2 at B I V;go_wp2_with fail
      refine I.o.mono ?_;rintro e u4 ⟨qa,qc,rfl,P,A7,U,D⟩
      rw[<-O.o] at D;rw[<-O.o] at U;have A4:=Qf (H.o.putT D P A7 V U);have B9:=Qf (C6.o.below D);have C0:=Qf (X.o.below D);have A3:=Qf (rlinks_any _ ea ec pa pc u4 C0.o.inn D4.o C1.o);simp only[Ob.val] at A3;rw[<-E4.o,<-E5.o] at A3;clear D P A7 U I H O B1 D6 C6 X e0 e1 p0 p1 V C0 D4 C1;generalize gG ⟨kind,data,ents,(t1,t2),pars,author,time,msg⟩=ls at A3 F2 B;obtain⟨e0,e1,e2,e3,e4,e5,e6,e7,e8⟩:=BK.c9 B9.o;go_wp2_with fail
      refine A3.o.mono ?_;rintro e u5 ⟨la,lc,rfl,C3,D⟩
      have B2:=Qf (A4.o.below D);obtain⟨v2,u6,E,S,hg,B3⟩:=dM u5 w.heap.size 24 _ WL B2.o.ow la ls lc (iy C3) (by push_cast; omega) B2.o.be.size;have D8:=Qf (B2.o.push S hg B3);have C:Qg (RY xs R F w gk2 (.slice qa T2.length qc) (.slice ma M.length mc) v2 (.int .i64 ((j+1:Nat):Int)) u6):=Qf ⟨j+1,_,T2,M,qa,qc,ma,mc,rfl,rfl,rfl,D8.o,B.o⟩;rw[show(((j+1:Nat):Int))=(j:Int)+1 by omega] at C;rw[<-HL.o] at E;have N:=Qf E;clear C3 D S hg B3 B2 D8 A4 A3 E B B9 e0 e1 e2 e3 e4 e5 e6 e7 e8;generalize T2.length=m2 at C ⊢;generalize ls.length=m3 at N ⊢;go_wp2_with (at_builtin; refine Lib.wpList_append_run _ rfl _ _ _ _ rfl _ _ rfl rfl _ _ N.o ?_);go_roundg gk2
      case measure=>omega
      case rel=>exact C
     ·have B5:(er !=0)=true:=by simpa using he
      have B:=Qf (L.o he);have I:=Qf (rwith_any ma M mc d1 d2 u3 H.o.dm H.o.mc (by omega));rw[O.o] at I;have V:=(eG M (d1,d2) (d1,d2)).2 (.inr rfl);clear L J A6 he;generalize mE M (d1,d2)=M2 at B I V;go_wp2_with fail
      refine I.o.mono ?_;rintro e u4 ⟨qa,qc,rfl,P,A7,U,D⟩
      rw[<-O.o] at D;rw[<-O.o] at U;have A4:=Qf (H.o.putM D P A7 V U);have C:Qg (RY xs R F w gk2 (.slice ta T.length tc) (.slice qa M2.length qc) (.slice (some ⟨b0,o0,none⟩) len wc) (.int .i64 ((j+1:Nat):Int)) u4):=Qf ⟨j+1,WL,T,M2,ta,tc,qa,qc,rfl,rfl,rfl,by rw[HL.o]; exact A4.o,B.o⟩;rw[show(((j+1:Nat):Int))=(j:Int)+1 by omega] at C;clear D P A7 U I H A4 B O B1 D6 C6 X e0 e1 p0 p1 V;generalize M2.length=m2 at C ⊢;go_wp2_with fail;go_roundg gk2
      case measure=>omega
      case rel=>exact C
  ·have HF:=Qf (HE.o.fin hj)
   rw[<-Q];have G9:¬(j<len):=by rw[Q]; exact hj
   go_wp2_with fail;go_ret2;rw[HF.o];exact⟨ta,tc,ma,mc,rfl,HM.o.dt,HM.o.dm,HM.o.be⟩
