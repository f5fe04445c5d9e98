/- Lemmas. -/
import Derived.Test.YtkedhdcnakhbgaaGreatK1
import Derived.Test.YtkedhdcnakhbgaaGreatProg
import Derived.WalkKit
import Derived.WalkSpells
import Derived.WalkLawsBesides
import Derived.Lib.Hide
import Derived.RegionTactic
import Derived.ChangeAlike
import Derived.Deep.RegionWith
import Derived.Deep.QuietTactic
import Derived.BigQuiet
import Derived.Lib.QuietBelow
import Derived.Lib.IndexBytes
import Derived.Laws.CopyOwn
import Derived.OwnWalk
import Derived.ProofKit
set_option linter.unusedSimpArgs false
set_option maxRecDepth 100000
set_option maxHeartbeats 16000000
namespace Go.Proofs.YtkedhdcnakhbgaaGreat
open Tryz
open Go.RowKit
variable {id lim off tot:Int}{L:List Value}{B B' f g k t:Nat}{a:Qa}{data:Qb}{W w w':World}
theorem Jo(off:Int)(s:ByteArray)(w:World)(B:-4611686018427387904<=off)(C:off<=4611686018427387904)(hs:(s.size:Int)<=140737488355328):
  Qh 85 #[.agg #[Yi off,.string s]] w fun e w'=>e=.returned (Yi (off+s.size))/\w.alloc (.cells #[Yi off,.string s] 78)=w':=by
 go_enter func85,ntmps85;go_wp2;go_ret;exact⟨rfl,rfl⟩
def v2(off tot:Int)(nd n:Nat):Bool:=decide (1<=n/\n<=65536/\1<=tot/\tot<=1048576/\0<=off/\off<=tot-n/\nd=0)
theorem OA(id off tot:Int)(a:Qa)(nd cd:Nat)(s:ByteArray)(w:World)(B:0<=id)(C:id<=1099511627776)(hs:(s.size:Int)<=140737488355328):
  Qh 70 #[.agg #[Yi 2,Yi id,Yi off,Yi tot,.slice a nd cd,.string s]] w fun e w'=>e=.returned (.bool (v2 off tot nd s.size))/\w.alloc (.cells #[Yi 2,Yi id,Yi off,Yi tot,.slice a nd cd,.string s] 73)=w':=by
 have D:Qg (∀b:Bool,(b=true↔(1<=s.size/\s.size<=65536/\1<=tot/\tot<=1048576/\0<=off/\off<=tot-s.size/\nd=0))->b=v2 off tot nd s.size):=Qf (fun b E=>by
  unfold v2; rw[YF,E,decide_eq_true_iff])
 go_enter func70,ntmps70;go_wp2
 all_goals
  go_ret;refine⟨cK (D.o _ ?_),rfl⟩;simp;omega
abbrev P:=Int×Qb
def Pcs(B:Nat)(W:World)(a:Qa)(ps:List P):Prop:=
 ∀i (h:i<ps.length),∃b off,a=some ⟨b,off,none⟩/\b<B/\W.cell? ⟨b,off+i*2,none⟩=some (Yi ps[i].1)/\W.cell? ⟨b,off+i*2+1,none⟩=some (.string ⟨ps[i].2.toArray⟩)
theorem Pcs.below{W':World}{ps:List P}(h:Pcs B W a ps)(C:Below B' W W')(H:B<=B'):Pcs B W' a ps:=by
 intro i G;obtain⟨b,I,D,A,E,F⟩:=h i G;exact⟨b,I,D,A,(C.cell (p:=⟨b,I+i*2,none⟩) Zt).trans E,(C.cell (p:=⟨b,I+i*2+1,none⟩) Zt).trans F⟩
theorem Pcs.mono{ps:List P}(h:Pcs B W a ps)(F:B<=B'):Pcs B' W a ps:=by
 intro i D;obtain⟨b,G,A,E,C⟩:=h i D;exact⟨b,G,A,Zo,C⟩
def vgo(tot:Int):Int->List P->Bool
 | _,[]=>true
 | e,p::ps=>decide (0<=p.1)&&!p.2.isEmpty&&decide (p.1<=tot-p.2.length)&&decide (e<p.1)&&vgo tot (p.1+p.2.length) ps
def gm(id tot:Int)(ps:List P):Bool:=
 ps.isEmpty||(decide (0<=id/\id<=1099511627776/\0<=tot/\tot<=1048576)&&vgo tot (-1) ps)
def Dv(tot:Int)(ps:List P)(k:Nat):Prop:=
 ∃e,vgo tot e (ps.drop k)=vgo tot (-1) ps/\((k=0/\e=-1)\/∃(j:Nat) (h:j<ps.length),k=j+1/\e=ps[j].1+ps[j].2.length/\0<=ps[j].1/\ps[j].1<=tot)
theorem Dv.start(tot:Int)(ps:List P):Dv tot ps 0:=⟨-1,rfl,.inl ⟨rfl,rfl⟩⟩
theorem Dv.fin{ps:List P}(h:Dv tot ps k)(A:ps.length<=k):vgo tot (-1) ps=true:=by
 obtain⟨e,h,_⟩:=h;rw[<-h,kR A]; rfl
theorem Dv.bad{ps:List P}(h:Dv tot ps k)(B:k<ps.length)(A:ps[k].1<0\/ps[k].2=[]\/tot-ps[k].2.length<ps[k].1):vgo tot (-1) ps=false:=by
 obtain⟨e,h,_⟩:=h;rw[<-h,aN B,vgo];rcases A with A | A | A
 ·have:decide (0<=ps[k].1)=false:=Zu A;simp[this]
 ·simp[A]
 ·have:decide (ps[k].1<=tot-ps[k].2.length)=false:=Zu A;simp[this]
theorem Dv.next{tot:Int}{ps:List P}{k:Nat}(h:Dv tot ps k)(E:k<ps.length)(C:0<=ps[k].1)(F:ps[k].2≠[])(G:ps[k].1<=tot-ps[k].2.length)
  (H:∀(j:Nat) (D:j<ps.length),k=j+1->ps[j].1+ps[j].2.length<ps[k].1):Dv tot ps (k+1):=by
 obtain⟨e,h,I⟩:=h;refine⟨ps[k].1+ps[k].2.length,?_,.inr ⟨k,E,rfl,rfl,C,Zo⟩⟩;rw[<-h,aN E]
 conv=>rhs; rw[vgo]
 have J:e<ps[k].1:=by
  rcases I with⟨_,rfl⟩ | ⟨j,D,B,rfl,_,_⟩
  ·omega
  ·exact H j D B
 have A:ps[k].2.isEmpty=false:=Zu F;simp[C,A,G,J]
theorem Dv.close{ps:List P}(h:Dv tot ps k)(E:k<ps.length){j:Nat}(H:j<ps.length)(F:k=j+1)(B:ps[k].1<=ps[j].1+ps[j].2.length):vgo tot (-1) ps=false:=by
 obtain⟨e,h,C⟩:=h;rw[<-h,aN E,vgo];rcases C with⟨G,_⟩ | ⟨j',D,A,rfl,_,_⟩
 ·omega
 ·obtain rfl:j'=j:=Zo;have:decide (ps[j'].1+ps[j'].2.length<ps[k].1)=false:=Zu B;simp[this]
theorem Fa{ps:List P}(h:0<ps.length)(A:¬(0<=id/\id<=1099511627776/\0<=tot/\tot<=1048576)):gm id tot ps=false:=by
 unfold gm;have:ps.isEmpty=false:=by cases ps with | nil=>simp at h | cons=>rfl
 rw[this,XN A]; rfl
theorem zi{ps:List P}(h:0<ps.length)(A:0<=id/\id<=1099511627776/\0<=tot/\tot<=1048576):gm id tot ps=vgo tot (-1) ps:=by
 unfold gm;have:ps.isEmpty=false:=by cases ps with | nil=>simp at h | cons=>rfl
 rw[this,XI A]; rfl
abbrev boxP(w:World)(id tot:Int)(a:Qa)(n c:Nat):World:=w.alloc (.cells #[Yi id,Yi tot,.slice a n c] 32)
theorem jq(id tot:Int)(a:Qa)(ps:List P)(c:Nat)(w:World)(B7:Pcs w w a ps)(hn:(ps.length:Int)<=140737488355328)(A6:∀p∈ps,p.2.length<=140737488355328):
  Qh 84 #[.agg #[Yi id,Yi tot,.slice a ps.length c]] w (Xz (.bool (gm id tot ps)) w):=by
 have HZ:=Qf A6;clear A6;obtain⟨n,S⟩:=Qe ps.length;have HN:=Qf S;rw[<-S] at hn ⊢;clear S;by_cases F:(n:Int)=0
 ·have H:Qg (gm id tot ps=true):=Qf (by
   have:ps=[]:=Qr.1 (by rw[<-HN.o]; omega);rw[this]; rfl)
  have t0:((n:Int)==0)=true:=Zu F;clear F;go_enter func84,ntmps84;go_wp2;go_ret;exact⟨Zw H.o,ba w _⟩
 ·have t0:((n:Int)==0)=false:=Zu F;have A5:0<ps.length:=by rw[<-HN.o]; omega
  by_cases hb:0<=id/\id<=1099511627776/\0<=tot/\tot<=1048576
  ·have H:=Qf (zi A5 hb);obtain⟨A2,A3,B8,B9⟩:=hb;have d1:decide (id<0)=false:=Zu A2;have d2:decide (1099511627776<id)=false:=Zu A3;have d3:decide (tot<0)=false:=Zu B8;have d4:decide (1048576<tot)=false:=Zu B9;clear F;go_enter func84,ntmps84;go_wp2;go_loopw [30] (fun i wr=>∃k:Nat,k<=n/\i=Yi k/\Below ((w:Nat)+1) (boxP w id tot a n c) wr/\Dv tot ps k) (fun i _=>n-(intOf i).toNat)
   case atStart=>exact⟨0,Zo,rfl,bf _,Dv.start _ _⟩
   case round=>
    obtain⟨k,hk,rfl,D,hrel⟩:=hrel;obtain⟨V,L⟩:=Yj D hrel;have C5:(w:Nat)+1<=(wr:Nat):=Zu D.size;have c0:wr.cell? ⟨w,1,none⟩=some (Yi tot):=(D.cell (p:=⟨w,1,none⟩) Zs).trans Zs;have c1:wr.cell? ⟨w,2,none⟩=some (.slice a n c):=(D.cell (p:=⟨w,2,none⟩) Zs).trans Zs;clear D hrel;by_cases B5:k<n
    ·have B:k<ps.length:=HN.o▸B5;have HP:Qg (Pcs w wr a ps):=Qf ((B7.below (ba w _) nr).below V.o Zo);obtain⟨b,C2,rfl,D2,hc,hd⟩:=HP.o k B;obtain⟨o,ho⟩:=Qe (ps[k].1);obtain⟨T,hT⟩:=Qe (ps[k].2);have D1:(T.length:Int)<=140737488355328:=by have:=HZ.o ps[k] (ak B); rw[hT]; omega
     rw[<-ho] at hc;rw[<-hT] at hd;obtain⟨K,U⟩:=Yj ho hT;clear ho hT;have C:Qg (PM w (wr.alloc (.cells #[Yi o,T] 78))):=Qf (((ba w _).trans (V.o.mono Zo)).alloc Zo _);by_cases h1:o<0
     ·have G:=Qf (L.o.bad B (.inl (K.o▸h1)));go_wp2;go_ret;exact⟨by rw[H.o,G.o]; rfl,C.o⟩
     ·by_cases E:T=[]
      ·have G:=Qf (L.o.bad B (.inr (.inl (U.o▸E))));subst E;go_wp2;go_ret;exact⟨by rw[H.o,G.o]; rfl,C.o⟩
      ·have C9:T.isEmpty=false:=Zu E;have D0:0<T.length:=bJ.2 E;have Y:=Qf E;clear E;have B6:=fun x=>bP c0 x
       have A9:=fun x=>bP c1 x
       by_cases h2:tot-T.length<o
       ·have G:=Qf (L.o.bad B (.inr (.inr (by rw[<-U.o,<-K.o]; exact h2))));go_wp2;go_ret;exact⟨by rw[H.o,G.o]; rfl,C.o⟩
       ·by_cases A4:k=0
        ·have Q:Qg (Dv tot ps (k+1)):=Qf (L.o.next B (by rw[<-K.o]; omega) (U.o▸Y.o) (by rw[<-U.o,<-K.o]; omega) (fun j _ hj=>Zo));have g0:decide (0<k)=false:=Zt;clear A4;go_wp2_with fail;go_quiet (fail);go_wp2;go_roundw
         case rel=>exact⟨k+1,Zo,Zg,(V.o.alloc Zo _).trans (below_drewN (bf _) _),Q.o⟩
         case measure=>exact Yq
        ·have R:k-1<ps.length:=Zo;have B1:Qg (0<k):=Qf Zo;obtain⟨b2,C0,B3,_,A0,A1⟩:=HP.o (k-1) R;cases B3;obtain⟨oj,J⟩:=Qe (ps[k-1].1);obtain⟨Tj,I⟩:=Qe (ps[k-1].2);have C3:(Tj.length:Int)<=140737488355328:=by have:=HZ.o ps[k-1] (ak R); rw[I]; omega
         have C4:0<=oj/\oj<=1048576:=by
          obtain⟨e,_,B2⟩:=L.o;rcases B2 with⟨h,_⟩ | ⟨j',D6,B4,_,D7,D8⟩
          ·omega
          ·obtain rfl:j'=k-1:=Zo;rw[J]; omega
         rw[<-J] at A0;rw[<-I] at A1;obtain⟨X,Z⟩:=Yj J I;clear J I;have HE:=Qf (fun w=>Jo oj ⟨Tj.toArray⟩ w Zo Zo (Zy bH));rw[bH] at HE;have g0:decide (0<k)=true:=Zt;have q1:IntKind.i64.wrap ((k:Int)-1)=(k:Int)-1:=IntWalk.i64_in _ Zo;have q2:(0:Int)<=(k:Int)-1:=Zo;have q3:((k:Int)-1).toNat=k-1:=Zo;have q4:(k:Int)-1<(n:Int):=Zo;have M:=fun x=>bP A0 x
         have N:=fun x=>bP A1 x
         have B0:=fun x y=>NU c1 x y
         clear A4;go_wp2_with fail;have A8:=Qf (fun d os=>YJ (w:=wr.alloc (.cells #[Yi o,T] 78)) (d:=d) (os:=os) ((HE.o _).mono (R':=fun e w'=>e=.returned (Yi (oj+Tj.length))/\Below _ _ w') (by rintro e w' ⟨rfl,rfl⟩; exact⟨rfl,ba _ _⟩)));have k1:=YG (A9 (.cells #[Yi o,T] 78));have k2:=YG (M (.cells #[Yi o,T] 78));have k3:=YG (N (.cells #[Yi o,T] 78));have k4:=YG (show(wr.alloc (.cells #[Yi o,T] 78)).cell? wr=some (Yi o) by simp);refine YH Zk Zk ?_
         repeat (any_goals (first | go_big_quiet_step (exact A8.o _ _) | quiet_step (exact A8.o _ _)))
         refine YI ?_;intro w2 A7;have W:=Qf (aX A7);clear A7 A8 k1 k2 k3 k4 q1 q2 q3 M N B0 B6 A9;have O:Qg (PM w w2):=Qf (XT C.o W.o);by_cases h3:o<=oj+Tj.length
         ·have G:=Qf (L.o.close B R (Zh B1.o) (by rw[<-K.o,<-X.o,<-Z.o]; exact h3));go_wp2;go_ret;exact⟨by rw[H.o,G.o]; rfl,O.o⟩
         ·have Q:Qg (Dv tot ps (k+1)):=Qf (L.o.next B (by rw[<-K.o]; omega) (U.o▸Y.o) (by rw[<-U.o,<-K.o]; omega) (fun j hj B4=>by
           obtain rfl:j=k-1:=Zo;rw[<-K.o,<-X.o,<-Z.o]; omega))
          go_wp2;go_roundw
          case rel=>exact⟨k+1,Zo,Zg,(V.o.alloc Zo _).trans (W.o.mono Zt),Q.o⟩
          case measure=>exact Yq
    ·have G:=Qf (L.o.fin (by rw[<-HN.o]; omega));go_wp2;go_ret;exact⟨by rw[H.o,G.o]; rfl,(ba w _).trans (V.o.mono Zo)⟩
  ·have H:=Qf (Fa A5 hb);have C1:(id<0\/1099511627776<id)\/(tot<0\/1048576<tot):=Zo;clear hb F;go_enter func84,ntmps84;go_wp2_with fail
   all_goals
    go_ret;exact⟨Zw H.o,ba w _⟩
theorem Kr(off:Int)(T:Qb)(w:World)(B:0<=off)(C:off<=1048576)(hs:(T.length:Int)<=1048576):
  Qh 85 #[.agg #[Yi off,T]] w (Xz (Yi (off+T.length)) w):=by
 refine(Jo off ⟨T.toArray⟩ w Zo Zo (Zy bH)).mono ?_;rintro e w' ⟨rfl,rfl⟩;rw[bH];exact⟨rfl,ba _ _⟩
def mH(a b:P):Option P:=
 if(a.2.drop (b.1-a.1).toNat).take (min (a.1+a.2.length) (b.1+b.2.length)-b.1).toNat≠b.2.take (min (a.1+a.2.length) (b.1+b.2.length)-b.1).toNat then none
 else if(min (a.1+a.2.length) (b.1+b.2.length)-b.1).toNat=b.2.length then some a
 else if(b.1-a.1).toNat=0 then some b
 else some (a.1,a.2++b.2.drop (min (a.1+a.2.length) (b.1+b.2.length)-b.1).toNat)
theorem sw(oa ob:Int)(A B:Qb)(st cn:Nat)(C:(st:Int)=ob-oa)(D:min (oa+(A.length:Int)) (ob+(B.length:Int))-ob=(cn:Int)):
  mH (oa,A) (ob,B)=if(A.drop st).take cn≠B.take cn then none else if cn=B.length then some (oa,A) else if st=0 then some (ob,B) else some (oa,A++B.drop cn):=by
 unfold mH;simp only;rw[D,<-C,aj,aj]
def U9(w:World)(r:Option P)(e:Ending)(w':World):Prop:=
 e=.returned (.tuple #[.agg #[Yi (r.getD (0,[])).1,.string ⟨(r.getD (0,[])).2.toArray⟩],.bool r.isSome])/\PM w w'
theorem La(oa ob:Int)(A B:Qb)(w:World)(B8:0<=oa)(B9:oa<=1048576)(C0:0<=ob)(C1:ob<=1048576)(hA:(A.length:Int)<=1048576)(hB:(B.length:Int)<=1048576)(ho:oa<=ob)(C6:¬ob<oa)(ht:ob<=oa+A.length):
  Qh 159 #[.agg #[Yi oa,A],.agg #[Yi ob,B]] w (U9 w (mH (oa,A) (ob,B))):=by
 obtain⟨st,I⟩:∃st:Nat,(st:Int)=ob-oa:=⟨(ob-oa).toNat,Zo⟩;obtain⟨cm,L,Q⟩:∃cm:Int,min (oa+(A.length:Int)) (ob+(B.length:Int))-ob=cm/\0<=cm:=⟨_,rfl,Zo⟩;obtain⟨cn,rfl⟩:∃cn:Nat,cm=(cn:Int):=⟨cm.toNat,Zo⟩;clear Q;have C2:ob+cn<=oa+A.length:=Zo;have C3:(cn:Int)<=B.length:=Zo;have C4:(st:Int)+cn<=A.length:=Zo;obtain⟨HJ,B2,B1⟩:=Yk (sw oa ob A B st cn I L) I L;have A9:ob-oa=(st:Int):=I.symm;have R:(if ob+(B.length:Int)<oa+(A.length:Int) then ob+(B.length:Int) else oa+(A.length:Int))=ob+(cn:Int):=by split <;> omega
 have C5:ob+(cn:Int)-ob=(cn:Int):=Zo;clear I L;obtain⟨X,HX,U⟩:∃X:Qb,Qg (X=(A.drop st).take cn)/\∀W,(Instr.slice 9 (.string ⟨A.toArray⟩) (some (Yi st)) (some (Yi ((st:Int)+cn))) none).run prog W=.ok (.string ⟨X.toArray⟩) W:=by
  refine⟨_,Qf rfl,fun W=>?_⟩;rw[run_slice_string W 9 ⟨A.toArray⟩ .i64 .i64 st ((st:Int)+cn) underlying9 Zo Zo (Zy bH)];have:(A:ByteArray).extract ((st:Int)).toNat ((st:Int)+cn).toNat=⟨((A.drop st).take cn).toArray⟩:=QG (by
   rw[Lib.extract_data,show((st:Int)+cn).toNat-((st:Int)).toNat=cn from Zo,aj])
  rw[this]
 obtain⟨Y,M,V⟩:∃Y:Qb,Qg (Y=B.take cn)/\∀W,(Instr.slice 9 (.string ⟨B.toArray⟩) none (some (Yi cn)) none).run prog W=.ok (.string ⟨Y.toArray⟩) W:=by
  refine⟨_,Qf rfl,fun W=>?_⟩;rw[run_slice_string_h (P:=prog) W (t:=9) ⟨B.toArray⟩ underlying9 .i64 cn Zo (Zy bH)];have:(B:ByteArray).extract 0 ((cn:Int)).toNat=⟨(B.take cn).toArray⟩:=QG (by rw[Lib.extract_data,List.drop_zero,Nat.sub_zero,aj]);rw[this]
 obtain⟨Z,HZ,A8⟩:∃Z:Qb,Qg (Z=B.drop cn)/\∀W,(Instr.slice 9 (.string ⟨B.toArray⟩) (some (Yi cn)) none none).run prog W=.ok (.string ⟨Z.toArray⟩) W:=by
  refine⟨_,Qf rfl,fun W=>?_⟩;rw[run_slice_string_l (P:=prog) W (t:=9) ⟨B.toArray⟩ underlying9 .i64 cn Zo (Zy bH)];have:(B:ByteArray).extract ((cn:Int)).toNat (B:ByteArray).size=⟨(B.drop cn).toArray⟩:=QG (by rw[Lib.extract_to_end,aj]);rw[this]
 have B7:(Z.length:Int)<=1048576:=by rw[HZ.out,ah]; omega
 have A7:∀W,(Op.stringOp .add ⟨A.toArray⟩ ⟨Z.toArray⟩).run prog W=.ok (.string ⟨(A++Z).toArray⟩) W:=fun W=>run_string_add_lists W A Z Zo Zo
 obtain⟨W,E⟩:∃W:World,(((w.alloc (.cells #[Yi oa,A] 78)).alloc (.cells #[Yi ob,B] 78)).alloc (.cells #[Yi 0,Ye] 78))=W:=⟨_,rfl⟩;have J:Qg (PM w W):=Qf (by rw[<-E]; exact((ba w _).alloc Zs _).alloc Zt _);have w0:W.cell? w=some (Yi oa):=by rw[<-E]; simp[go_sem]
 have w1:W.cell? ⟨w,1,none⟩=some (.string ⟨A.toArray⟩):=by rw[<-E]; simp[go_sem]
 have w2:W.cell? ⟨(w:Nat)+1,0,none⟩=some (Yi ob):=by rw[<-E]; simp[go_sem]
 have w3:W.cell? ⟨(w:Nat)+1,1,none⟩=some (.string ⟨B.toArray⟩):=by rw[<-E]; simp[go_sem]
 have w4:W.cell? ⟨(w:Nat)+1+1,0,none⟩=some (Yi 0):=by rw[<-E]; simp[go_sem]
 have w5:W.cell? ⟨(w:Nat)+1+1,1,none⟩=some (.string ⟨#[]⟩):=by rw[<-E]; simp[go_sem]
 have f4:W.frozen? ⟨(w:Nat)+1+1,0,none⟩=false:=by rw[<-E]; simp[go_sem]
 have f5:W.frozen? ⟨(w:Nat)+1+1,1,none⟩=false:=by rw[<-E]; simp[go_sem]
 have N:(w:Nat)+3<=(W:Nat):=by rw[<-E]; simp[go_sem]
 have HW:=Qf E;clear E;have HE:=Qf (fun(o:Int) (T:Qb) (d:Nat) (os:Array Obj) h0 h1 h2=>YJ (w:=W) (d:=d) (os:=os) (Kr o T _ h0 h1 h2));have k0:=YG w0;have k1:=YG w1;have k2:=YG w2;have k3:=YG w3;go_enter func159,ntmps159;go_wp2_with fail;rw[HW.o];refine YH Zk Zk ?_
 repeat (any_goals (first | go_big_quiet_step (refine HE.o _ _ _ _ ?_ ?_ ?_ <;> omega) | quiet_step (refine HE.o _ _ _ _ ?_ ?_ ?_ <;> omega)))
 refine YI ?_;intro x2 A0;have C:=aX A0;clear A0 HE k0 k1 k2 k3;have F:=Qf (XT J.o C);have y0:=(C.cell (p:=⟨w,0,none⟩) Zt).trans w0;have y1:=(C.cell (p:=⟨w,1,none⟩) Zt).trans w1;have y2:=(C.cell (p:=⟨(w:Nat)+1,0,none⟩) Zt).trans w2;have y3:=(C.cell (p:=⟨(w:Nat)+1,1,none⟩) Zt).trans w3;have y4:=(C.cell (p:=⟨(w:Nat)+1+1,0,none⟩) Zt).trans w4;have y5:=(C.cell (p:=⟨(w:Nat)+1+1,1,none⟩) Zt).trans w5;have z4:=(C.frozen (p:=⟨(w:Nat)+1+1,0,none⟩) Zt).trans f4;have z5:=(C.frozen (p:=⟨(w:Nat)+1+1,1,none⟩) Zt).trans f5;have B0:(w:Nat)+3<=(x2:Nat):=aC N C.size;clear C w0 w1 w2 w3 w4 w5 f4 f5 N J HW R;go_wp2_with fail;by_cases G:X=Y
 ·subst G;rw[HX.out] at M;have B6:(X==X)=true:=Zs;go_quiet (fail);clear U V;by_cases D:cn=B.length
  ·have O:((cn:Int)==(B.length:Int))=true:=Zy XS;have K:Qg (mH (oa,A) (ob,B)=some (oa,A)):=Qf (by rw[HJ.o,if_neg (Zu M.out),if_pos D]);clear D;go_wp2;refine XB (v:=.tuple #[.agg #[Yi oa,A],.bool true]) (by simp[results,results159,go_sem,y4,y5]) rfl ⟨Zw K.o,((below_drewN F.o _).setCell Zt _).setCell Zt _⟩
  ·have O:((cn:Int)==(B.length:Int))=false:=Zy XK;by_cases H:st=0
   ·have K:Qg (mH (oa,A) (ob,B)=some (ob,B)):=Qf (by rw[HJ.o,if_neg (Zu M.out),if_neg D,if_pos H]);have S:((st:Int)==0)=true:=Zy XS;clear D H;go_wp2;refine XB (v:=.tuple #[.agg #[Yi ob,B],.bool true]) (by simp[results,results159,go_sem,y4,y5]) rfl ⟨Zw K.o,((below_drewN F.o _).setCell Zt _).setCell Zt _⟩
   ·have K:Qg (mH (oa,A) (ob,B)=some (oa,A++Z)):=Qf (by rw[HJ.o,if_neg (Zu M.out),if_neg D,if_neg H,HZ.out]);have S:((st:Int)==0)=false:=Zy XK;clear D H;go_wp2;go_region
    all_goals
     go_wp2;refine XB (v:=.tuple #[.agg #[Yi oa,(A++Z)],.bool true]) (by simp[results,results159,go_sem,y4,y5]) rfl ⟨Zw K.o,((below_drewN F.o _).setCell Zt _).setCell Zt _⟩
 ·have A6:(X==Y)=false:=Zu G;have K:Qg (mH (oa,A) (ob,B)=none):=Qf (by rw[HJ.o,if_pos]; rw[<-HX.out,<-M.out]; exact G);clear G;go_quiet (fail);go_wp2;refine XB (v:=.tuple #[.agg #[Yi 0,Ye],.bool false]) (by simp[results,results159,go_sem,y4,y5]) rfl ⟨Zw K.o,((below_drewN F.o _).setCell Zt _).setCell Zt _⟩
theorem K9(oa ob:Int)(A B:Qb)(w:World)(B8:0<=oa)(B9:oa<=1048576)(C0:0<=ob)(C1:ob<=1048576)(hA:(A.length:Int)<=1048576)(hB:(B.length:Int)<=1048576)(C6:oa<ob)(ht:ob<=oa+A.length):
  Qh 159 #[.agg #[Yi ob,B],.agg #[Yi oa,A]] w (U9 w (mH (oa,A) (ob,B))):=by
 obtain⟨st,I⟩:∃st:Nat,(st:Int)=ob-oa:=⟨(ob-oa).toNat,Zo⟩;obtain⟨cm,L,Q⟩:∃cm:Int,min (oa+(A.length:Int)) (ob+(B.length:Int))-ob=cm/\0<=cm:=⟨_,rfl,Zo⟩;obtain⟨cn,rfl⟩:∃cn:Nat,cm=(cn:Int):=⟨cm.toNat,Zo⟩;clear Q;have C2:ob+cn<=oa+A.length:=Zo;have C3:(cn:Int)<=B.length:=Zo;have C4:(st:Int)+cn<=A.length:=Zo;obtain⟨HJ,B2,B1⟩:=Yk (sw oa ob A B st cn I L) I L;have A9:ob-oa=(st:Int):=I.symm;have R:(if ob+(B.length:Int)<oa+(A.length:Int) then ob+(B.length:Int) else oa+(A.length:Int))=ob+(cn:Int):=by split <;> omega
 have C5:ob+(cn:Int)-ob=(cn:Int):=Zo;clear I L;obtain⟨X,HX,U⟩:∃X:Qb,Qg (X=(A.drop st).take cn)/\∀W,(Instr.slice 9 (.string ⟨A.toArray⟩) (some (Yi st)) (some (Yi ((st:Int)+cn))) none).run prog W=.ok (.string ⟨X.toArray⟩) W:=by
  refine⟨_,Qf rfl,fun W=>?_⟩;rw[run_slice_string W 9 ⟨A.toArray⟩ .i64 .i64 st ((st:Int)+cn) underlying9 Zo Zo (Zy bH)];have:(A:ByteArray).extract ((st:Int)).toNat ((st:Int)+cn).toNat=⟨((A.drop st).take cn).toArray⟩:=QG (by
   rw[Lib.extract_data,show((st:Int)+cn).toNat-((st:Int)).toNat=cn from Zo,aj])
  rw[this]
 obtain⟨Y,M,V⟩:∃Y:Qb,Qg (Y=B.take cn)/\∀W,(Instr.slice 9 (.string ⟨B.toArray⟩) none (some (Yi cn)) none).run prog W=.ok (.string ⟨Y.toArray⟩) W:=by
  refine⟨_,Qf rfl,fun W=>?_⟩;rw[run_slice_string_h (P:=prog) W (t:=9) ⟨B.toArray⟩ underlying9 .i64 cn Zo (Zy bH)];have:(B:ByteArray).extract 0 ((cn:Int)).toNat=⟨(B.take cn).toArray⟩:=QG (by rw[Lib.extract_data,List.drop_zero,Nat.sub_zero,aj]);rw[this]
 obtain⟨Z,HZ,A8⟩:∃Z:Qb,Qg (Z=B.drop cn)/\∀W,(Instr.slice 9 (.string ⟨B.toArray⟩) (some (Yi cn)) none none).run prog W=.ok (.string ⟨Z.toArray⟩) W:=by
  refine⟨_,Qf rfl,fun W=>?_⟩;rw[run_slice_string_l (P:=prog) W (t:=9) ⟨B.toArray⟩ underlying9 .i64 cn Zo (Zy bH)];have:(B:ByteArray).extract ((cn:Int)).toNat (B:ByteArray).size=⟨(B.drop cn).toArray⟩:=QG (by rw[Lib.extract_to_end,aj]);rw[this]
 have B7:(Z.length:Int)<=1048576:=by rw[HZ.out,ah]; omega
 have A7:∀W,(Op.stringOp .add ⟨A.toArray⟩ ⟨Z.toArray⟩).run prog W=.ok (.string ⟨(A++Z).toArray⟩) W:=fun W=>run_string_add_lists W A Z Zo Zo
 obtain⟨W,E⟩:∃W:World,(((w.alloc (.cells #[Yi oa,A] 78)).alloc (.cells #[Yi ob,B] 78)).alloc (.cells #[Yi 0,Ye] 78))=W:=⟨_,rfl⟩;have J:Qg (PM w W):=Qf (by rw[<-E]; exact((ba w _).alloc Zs _).alloc Zt _);have w0:W.cell? w=some (Yi oa):=by rw[<-E]; simp[go_sem]
 have w1:W.cell? ⟨w,1,none⟩=some (.string ⟨A.toArray⟩):=by rw[<-E]; simp[go_sem]
 have w2:W.cell? ⟨(w:Nat)+1,0,none⟩=some (Yi ob):=by rw[<-E]; simp[go_sem]
 have w3:W.cell? ⟨(w:Nat)+1,1,none⟩=some (.string ⟨B.toArray⟩):=by rw[<-E]; simp[go_sem]
 have w4:W.cell? ⟨(w:Nat)+1+1,0,none⟩=some (Yi 0):=by rw[<-E]; simp[go_sem]
 have w5:W.cell? ⟨(w:Nat)+1+1,1,none⟩=some (.string ⟨#[]⟩):=by rw[<-E]; simp[go_sem]
 have f4:W.frozen? ⟨(w:Nat)+1+1,0,none⟩=false:=by rw[<-E]; simp[go_sem]
 have f5:W.frozen? ⟨(w:Nat)+1+1,1,none⟩=false:=by rw[<-E]; simp[go_sem]
 have N:(w:Nat)+3<=(W:Nat):=by rw[<-E]; simp[go_sem]
 have HW:=Qf E;clear E;have HE:=Qf (fun(o:Int) (T:Qb) (d:Nat) (os:Array Obj) h0 h1 h2=>YJ (w:=W) (d:=d) (os:=os) (Kr o T _ h0 h1 h2));have k0:=YG w0;have k1:=YG w1;have k2:=YG w2;have k3:=YG w3;go_enter func159,ntmps159;go_wp2_with fail;rw[HW.o];refine YH Zk Zk ?_
 repeat (any_goals (first | go_big_quiet_step (refine HE.o _ _ _ _ ?_ ?_ ?_ <;> omega) | quiet_step (refine HE.o _ _ _ _ ?_ ?_ ?_ <;> omega)))
 refine YI ?_;intro x2 A0;have C:=aX A0;clear A0 HE k0 k1 k2 k3;have F:=Qf (XT J.o C);have y0:=(C.cell (p:=⟨w,0,none⟩) Zt).trans w0;have y1:=(C.cell (p:=⟨w,1,none⟩) Zt).trans w1;have y2:=(C.cell (p:=⟨(w:Nat)+1,0,none⟩) Zt).trans w2;have y3:=(C.cell (p:=⟨(w:Nat)+1,1,none⟩) Zt).trans w3;have y4:=(C.cell (p:=⟨(w:Nat)+1+1,0,none⟩) Zt).trans w4;have y5:=(C.cell (p:=⟨(w:Nat)+1+1,1,none⟩) Zt).trans w5;have z4:=(C.frozen (p:=⟨(w:Nat)+1+1,0,none⟩) Zt).trans f4;have z5:=(C.frozen (p:=⟨(w:Nat)+1+1,1,none⟩) Zt).trans f5;have B0:(w:Nat)+3<=(x2:Nat):=aC N C.size;clear C w0 w1 w2 w3 w4 w5 f4 f5 N J HW R;go_wp2_with fail;by_cases G:X=Y
 ·subst G;rw[HX.out] at M;have B6:(X==X)=true:=Zs;go_quiet (fail);clear U V;by_cases D:cn=B.length
  ·have O:((cn:Int)==(B.length:Int))=true:=Zy XS;have K:Qg (mH (oa,A) (ob,B)=some (oa,A)):=Qf (by rw[HJ.o,if_neg (Zu M.out),if_pos D]);clear D;go_wp2;refine XB (v:=.tuple #[.agg #[Yi oa,A],.bool true]) (by simp[results,results159,go_sem,y4,y5]) rfl ⟨Zw K.o,((below_drewN F.o _).setCell Zt _).setCell Zt _⟩
  ·have O:((cn:Int)==(B.length:Int))=false:=Zy XK;by_cases H:st=0
   ·have K:Qg (mH (oa,A) (ob,B)=some (ob,B)):=Qf (by rw[HJ.o,if_neg (Zu M.out),if_neg D,if_pos H]);have S:((st:Int)==0)=true:=Zy XS;clear D H;go_wp2;refine XB (v:=.tuple #[.agg #[Yi ob,B],.bool true]) (by simp[results,results159,go_sem,y4,y5]) rfl ⟨Zw K.o,((below_drewN F.o _).setCell Zt _).setCell Zt _⟩
   ·have K:Qg (mH (oa,A) (ob,B)=some (oa,A++Z)):=Qf (by rw[HJ.o,if_neg (Zu M.out),if_neg D,if_neg H,HZ.out]);have S:((st:Int)==0)=false:=Zy XK;clear D H;go_wp2;go_region
    all_goals
     go_wp2;refine XB (v:=.tuple #[.agg #[Yi oa,(A++Z)],.bool true]) (by simp[results,results159,go_sem,y4,y5]) rfl ⟨Zw K.o,((below_drewN F.o _).setCell Zt _).setCell Zt _⟩
 ·have A6:(X==Y)=false:=Zu G;have K:Qg (mH (oa,A) (ob,B)=none):=Qf (by rw[HJ.o,if_pos]; rw[<-HX.out,<-M.out]; exact G);clear G;go_quiet (fail);go_wp2;refine XB (v:=.tuple #[.agg #[Yi 0,Ye],.bool false]) (by simp[results,results159,go_sem,y4,y5]) rfl ⟨Zw K.o,((below_drewN F.o _).setCell Zt _).setCell Zt _⟩
def kZ(a b:P):Option P:=if b.1<a.1 then mH b a else mH a b
theorem y8(oa ob:Int)(A B:Qb)(w:World)(C:0<=oa)(D:oa<=1048576)(E:0<=ob)(F:ob<=1048576)(H:(A.length:Int)<=1048576)(I:(B.length:Int)<=1048576)(J:ob<=oa+A.length)(G:oa<=ob+B.length):
  Qh 159 #[.agg #[Yi oa,A],.agg #[Yi ob,B]] w (U9 w (kZ (oa,A) (ob,B))):=by
 unfold kZ;by_cases h:ob<oa
 ·rw[if_pos (by exact h)];exact K9 ob oa B A w E F C D I H h G
 ·rw[if_neg (by exact h)];exact La oa ob A B w C D E F H I Zo h J
abbrev PU(p:P):Int:=p.1+p.2.length
theorem wX{a b r:P}(h:mH a b=some r)(E:a.1<=b.1)(F:b.1<=PU a):r.1=a.1/\PU r=max (PU a) (PU b):=by
 obtain⟨oa,A⟩:=a;obtain⟨ob,B⟩:=b;simp only[PU] at E F ⊢;obtain⟨st,D⟩:∃st:Nat,(st:Int)=ob-oa:=⟨(ob-oa).toNat,Zo⟩;obtain⟨cn,C⟩:∃cn:Nat,min (oa+(A.length:Int)) (ob+(B.length:Int))-ob=(cn:Int):=⟨(min (oa+(A.length:Int)) (ob+(B.length:Int))-ob).toNat,Zo⟩;rw[sw oa ob A B st cn D C] at h;split at h
 ·simp at h
 ·split at h
  ·rename_i G;simp only[XY] at h;subst h;simp only;refine⟨trivial,Zo⟩
  ·split at h
   ·simp only[XY] at h;subst h;simp only;refine⟨Zo,Zo⟩
   ·simp only[XY] at h;subst h;simp only[af,ah];refine⟨trivial,Zo⟩
theorem wW{a b r:P}(h:kZ a b=some r)(A:b.1<=PU a)(B:a.1<=PU b):r.1=min a.1 b.1/\PU r=max (PU a) (PU b):=by
 unfold kZ at h;split at h
 ·have:=wX h Zo B;omega
 ·have:=wX h Zo A;omega
def jB(off:Int):List P->Nat
 | []=>0
 | p::ps=>if PU p<off then jB off ps+1 else 0
def lg(lim:Int):P->List P->Option (P×Nat)
 | p,[]=>some (p,0)
 | p,q::qs=>if q.1<=lim then(kZ p q).bind fun r=>(lg lim r qs).map fun x=>(x.1,x.2+1) else some (p,0)
theorem xm(off:Int):∀(ps:List P) (k:Nat),(∀i (h:i<ps.length),i<k->PU ps[i]<off)->k<=ps.length->jB off ps=k+jB off (ps.drop k)
 | ps,0,_,_=>Zs
 | [],k+1,_,h=>by simp at h
 | p::ps,k+1,h,C=>by
  have A:=h 0 Zs Zo;simp only[aS] at A;rw[jB,if_pos A,List.drop_succ_cons,xm off ps k (fun i D B=>by have:=h (i+1) Zt Zo; simpa using this) (Zu C)];omega
theorem Lg{ps:List P}(C:k<=ps.length)(h:∀i (h:i<ps.length),i<k->PU ps[i]<off)(B:∀(h:k<ps.length),¬PU ps[k]<off):jB off ps=k:=by
 rw[xm off ps k h C];by_cases A:k<ps.length
 ·rw[aN A,jB,if_neg (B A)]; rfl
 ·rw[kR Zo]; rfl
theorem ni{tot:Int}:∀{ps:List P} {e:Int},vgo tot e ps=true->∀p∈ps,0<=p.1/\p.2≠[]/\PU p<=tot/\e<p.1
 | [],_,_,p,A=>by simp at A
 | q::qs,e,h,p,A=>by
  simp only[vgo,XF,XJ,Bool.not_eq_true'] at h;obtain⟨⟨⟨⟨B,C⟩,G⟩,D⟩,E⟩:=h;rcases XG.1 A with rfl | A
  ·exact⟨B,by intro F; simp[F] at C,by simp only[PU]; omega,D⟩
  ·obtain⟨a,b,c,d⟩:=ni E p A;exact⟨a,b,c,Zo⟩
theorem wm{tot:Int}:∀{ps:List P} {e:Int},vgo tot e ps=true->∀(i j:Nat) (A:j<ps.length) (C:i<j),PU ps[i]<(ps[j]'A).1
 | [],_,_,i,j,A,_=>by simp at A
 | q::qs,e,h,i,j,A,C=>by
  simp only[vgo,XF,XJ,Bool.not_eq_true'] at h;obtain⟨_,D⟩:=h;cases j with
  | zero=>omega
  | succ j=>
   have B:j<qs.length:=Zu A;cases i with
   | zero=>simpa using(ni D qs[j] (ak B)).2.2.2
   | succ i=>simpa using wm D i j B Zo
def nJ(id tot:Int)(ps:List P)(kind mid off mtot:Int)(nd:Nat)(data:Qb):Int×Int×Int×List P:=
 if !gm id tot ps then(1,0,0,[])
 else if kind≠2 then(9,0,0,[])
 else if !(decide (0<=mid/\mid<=1099511627776)&&v2 off mtot nd data.length) then(1,0,0,[])
 else if 0<ps.length/\(id≠mid\/tot≠mtot) then(11,0,0,[])
 else match lg (off+data.length) (off,data) (ps.drop (jB off ps)) with
  | none=>(11,0,0,[])
  | some (p,k)=>(0,mid,mtot,ps.take (jB off ps)++p::ps.drop (jB off ps+k))
def GU(lim off tot:Int)(data:Qb)(ps:List P)(f t:Nat)(p:P):Prop:=
 f<=t/\t<=ps.length/\lg lim (off,data) (ps.drop f)=(lg lim p (ps.drop t)).map (fun x=>(x.1,x.2+(t-f)))/\0<=p.1/\p.1<=off/\lim<=PU p/\PU p<=tot
theorem GU.start{ps:List P}(D:f<=ps.length)(A:0<=off)(B:lim<=off+data.length)(C:off+data.length<=tot):GU lim off tot data ps f f (off,data):=
 ⟨nr,D,by cases lg lim (off,data) (ps.drop f) <;> simp,A,Zs,B,C⟩
theorem GU.done{ps:List P}{p:P}(h:GU lim off tot data ps f t p)(C:∀h:t<ps.length,¬(ps[t].1<=lim)):lg lim (off,data) (ps.drop f)=some (p,t-f):=by
 obtain⟨_,D,B,_⟩:=h;rw[B];by_cases A:t<ps.length
 ·rw[aN A,lg,if_neg (C A)]; simp
 ·rw[kR Zo,lg]; simp
theorem GU.fails{ps:List P}{p:P}(h:GU lim off tot data ps f t p)(C:t<ps.length)(D:ps[t].1<=lim)(B:kZ p ps[t]=none):lg lim (off,data) (ps.drop f)=none:=by
 obtain⟨_,E,A,_⟩:=h;rw[A,aN C,lg,if_pos D,B]; rfl
theorem GU.next{ps:List P}{p r:P}(h:GU lim off tot data ps f t p)(D:t<ps.length)(E:ps[t].1<=lim)(A:kZ p ps[t]=some r)(G:0<=ps[t].1)(H:off<=PU ps[t])(I:PU ps[t]<=tot):GU lim off tot data ps f (t+1) r:=by
 obtain⟨C,F,B,J,K,L,M⟩:=h;have N:=wW A Zo Zo;refine⟨Zo,Zo,?_,Zo,Zo,Zo,Zo⟩;rw[B,aN D,lg,if_pos E,A];simp only[Option.bind_some,Option.map_map];congr 1;funext x;simp only[Function.comp];congr 1;omega
theorem oh{P:Program}(w:World)(dT sT ty elem:TypeId)(g o dLen dCap:Nat)(a:Addr)(sLen sCap:Nat)(cur:Array Value)(t:TypeId)(cs:List Value)(z:Nat)
  (K:P.underlying dT=some (.slice elem)) (hs:(P.info? elem).map (·.size)=some z)
  (G:w.heap[g]? = some (.cells cur t (0,0))) (n:Nat) (J:n=Nat.min sLen dLen) (C:cs.length=n*z)
  (B:∀j v,cs[j]? = some v->w.cell? (a.add j)=some v) (A:o+cs.length<=cur.size) (F:∀v∈cs,v.oneCell'=true) :
  (Builtin.copy_ #[dT,sT] ty #[.slice (some ⟨g,o,none⟩) dLen dCap,.slice (some a) sLen sCap]).run P w =
   .ok (goInt n) (w.setRow g (cur.toList.take o++cs++cur.toList.drop (o+cs.length)).toArray):=by
 have I:=run_loadCells_list (P:=P) w a cs B;have E:=run_storeCells_at P g o t cs 0 cur w G (Zu A) F;cases D:P.info? elem with
 | none=>simp[D] at hs
 | some i=>
  have H:i.size=z:=by simpa[D] using hs
  simp[Builtin.copy_,run_underlying K,Builtin.lenOf,Builtin.firstCells,sizeOf,typeInfo,D,H,<-J,<-C,I,E]
theorem mO{P:Program}(w:World)(dT sT ty elem:TypeId)(d a:Qa)(dLen dCap sLen sCap:Nat)(z:Nat)(D:P.underlying dT=some (.slice elem))(hs:(P.info? elem).map (·.size)=some z)(C:Nat.min sLen dLen=0):
  (Builtin.copy_ #[dT,sT] ty #[.slice d dLen dCap,.slice a sLen sCap]).run P w=.ok (goInt 0) w:=by
 cases A:P.info? elem with
 | none=>simp[A] at hs
 | some i=>
  have B:∀(x:Addr),(loadCells x 0).run P w=.ok #[] w:=fun x=>by simpa using run_loadCells_list (P:=P) w x [] Zs
  cases d <;> cases a <;> simp[Builtin.copy_,run_underlying D,Builtin.lenOf,Builtin.firstCells,sizeOf,typeInfo,A,C,storeCells,B]
theorem mY{P:Program}{w:World}{ops:Array Oper}{rest:List Oper}{o:Oper}{a:Act}{Q:Exit->Act->World->Prop}(E:o.guard=none)(d s:Operand)(dT sT:TypeId)
  (S:o.op=.call { callee:=.builtin .copy,args:=#[d,s],argTypes:=#[dT,sT] }) (elem:TypeId) (z:Nat) (T:P.underlying dT=some (.slice elem)) (H:(P.info? elem).map (·.size)=some z)
  (dp sp:Qa) (dLen dCap sLen sCap:Nat) (O:a.eval d=.slice dp dLen dCap) (hs:a.eval s=.slice sp sLen sCap)
  (g off:Nat) (cur:List Value) (t:TypeId) (L:w.heap[g]? = some (.cells cur.toArray t (0,0))) (cs:List Value) (n:Nat) (R:n=Nat.min sLen dLen) (C:cs.length=n*z)
  (F:0<n->dp=some ⟨g,off,none⟩/\∃ad,sp=some ad/\∀j v,cs[j]? = some v->w.cell? (ad.add j)=some v)
  (D:off+cs.length<=cur.length) (U:∀v∈cs,v.oneCell'=true) (B:Nat) (w0:World) (N:Below B w0 w) (I:B<=g)
  (h:∀w',Qg (w'.heap[g]? = some (.cells (splice cur off cs).toArray t (0,0)))->Below B w0 w'->wpList P ops Q rest (a.put o.dst (goInt n)) w') :
  wpList P ops Q (o::rest) a w:=by
 by_cases M:n=0
 ·obtain rfl:cs=[]:=aU (by rw[C,M]; simp);subst M;refine wpList_plain E fun K J=>?_
  have A:=mO (P:=P) w dT sT o.type elem dp sp dLen dCap sLen sCap z T H (Zu R.symm);unfold Oper.wp;simp[execOp,S,resolve,invoke,builtin,O,hs,A,Result.andThen];exact J _ _ (h w (show _=_ by simpa[splice] using L) N)
 ·obtain⟨rfl,ad,rfl,G⟩:=F Zo;refine wpList_plain E fun K J=>?_
  have A:=oh (P:=P) w dT sT o.type elem g off dLen dCap ad sLen sCap cur.toArray t cs z T H L n R C G (Zu D) U;unfold Oper.wp;simp[execOp,S,resolve,invoke,builtin,O,hs,A,Result.andThen];exact J _ _ (h _ (show _=_ by simpa[splice] using setRow_heap w g _ _ t _ L) (below_setRow N I _))
theorem pV{P:Program}{ops:Array Oper}{o:Oper}{a:Act}{w:World}{K:Act->World->Prop}{Q:Exit->Act->World->Prop}{E:Prop}(L:o.guard=none)(d s:Operand)(dT sT:TypeId)
  (S:o.op=.call { callee:=.builtin .copy,args:=#[d,s],argTypes:=#[dT,sT] }) (elem:TypeId) (z:Nat) (T:P.underlying dT=some (.slice elem)) (H:(P.info? elem).map (·.size)=some z)
  (dp sp:Qa) (dLen dCap sLen sCap:Nat) (O:a.eval d=.slice dp dLen dCap) (hs:a.eval s=.slice sp sLen sCap)
  (g off:Nat) (cur:List Value) (t:TypeId) (J:w.heap[g]? = some (.cells cur.toArray t (0,0))) (cs:List Value) (n:Nat) (R:n=Nat.min sLen dLen) (C:cs.length=n*z)
  (F:0<n->dp=some ⟨g,off,none⟩/\∃ad,sp=some ad/\∀j v,cs[j]? = some v->w.cell? (ad.add j)=some v)
  (D:off+cs.length<=cur.length) (U:∀v∈cs,v.oneCell'=true) (B:Nat) (w0:World) (N:Below B w0 w) (I:B<=g)
  (h:∀w',Qg (w'.heap[g]? = some (.cells (splice cur off cs).toArray t (0,0)))->Below B w0 w'->K (a.put o.dst (goInt n)) w') :
  if Region.wanted o (yielded ops a.tmps)=true then Oper.wp P o a w K Q else E:=by
 have V:Region.wanted o (yielded ops a.tmps)=true:=by simp[Region.wanted,L]
 rw[if_pos V];by_cases M:n=0
 ·obtain rfl:cs=[]:=aU (by rw[C,M]; simp);subst M;have A:=mO (P:=P) w dT sT o.type elem dp sp dLen dCap sLen sCap z T H (Zu R.symm);unfold Oper.wp;simp[execOp,S,resolve,invoke,builtin,O,hs,A,Result.andThen];exact h w (show _=_ by simpa[splice] using J) N
 ·obtain⟨rfl,ad,rfl,G⟩:=F Zo;have A:=oh (P:=P) w dT sT o.type elem g off dLen dCap ad sLen sCap cur.toArray t cs z T H J n R C G (Zu D) U;unfold Oper.wp;simp[execOp,S,resolve,invoke,builtin,O,hs,A,Result.andThen];exact h _ (show _=_ by simpa[splice] using setRow_heap w g _ _ t _ J) (below_setRow N I _)
theorem Ah:(prog.info? 78).map (fun i=>(i.zero,i.size,i.bytes))=some (some (.agg #[Yi 0,Ye]),2,24):=Zk
def gD(ps:List P):List Value:=ps.flatMap fun p=>[Yi p.1,.string ⟨p.2.toArray⟩]
theorem fV(p:P)(ps:List P):gD (p::ps)=Yi p.1::.string ⟨p.2.toArray⟩::gD ps:=by simp[gD]
theorem oU(ps:List P):(gD ps).length=ps.length*2:=by
 induction ps with
 | nil=>rfl
 | cons p ps ih=>rw[fV]; simp[ih]; omega
theorem xU(ps qs:List P):gD (ps++qs)=gD ps++gD qs:=by simp[gD]
theorem wO{ps:List P}{v:Value}(h:v∈gD ps):v.oneCell'=true:=by
 unfold gD at h;rw[List.mem_flatMap] at h;obtain⟨p,_,A⟩:=h;rcases XG.1 A with rfl | A
 ·rfl
 ·rcases XG.1 A with rfl | A
  ·rfl
  ·simp at A
theorem zN:∀{ps:List P} {j:Nat} {v:Value},(gD ps)[j]? = some v->∃(i:Nat) (h:i<ps.length),(j=i*2/\v=Yi ps[i].1)\/(j=i*2+1/\v=.string ⟨ps[i].2.toArray⟩)
 | [],j,v,h=>by simp[gD] at h
 | p::ps,0,v,h=>by rw[fV] at h; exact⟨0,Zs,.inl ⟨rfl,Zu h.symm⟩⟩
 | p::ps,1,v,h=>by rw[fV] at h; exact⟨0,Zs,.inr ⟨rfl,Zu h.symm⟩⟩
 | p::ps,j+2,v,h=>by
  rw[fV] at h;simp only[List.getElem?_cons_succ] at h;obtain⟨i,D,C⟩:=zN h;refine⟨i+1,Zt,?_⟩;rcases C with⟨B,A⟩ | ⟨B,A⟩
  ·exact .inl ⟨Zo,Zu A⟩
  ·exact .inr ⟨Zo,Zu A⟩
theorem nH:∀(ps:List P) (i:Nat) (h:i<ps.length),(gD ps)[i*2]? = some (Yi ps[i].1)/\(gD ps)[i*2+1]? = some (.string ⟨ps[i].2.toArray⟩)
 | [],i,h=>by simp at h
 | p::ps,0,_=>Zn fV
 | p::ps,i+1,h=>by
  rw[fV,show(i+1)*2=i*2+1+1 from Zo];simpa using nH ps i (Zu h)
theorem Pcs.src{ps:List P}(h:Pcs B W a ps)(A:0<ps.length):∃ad,a=some ad/\∀j v,(gD ps)[j]? = some v->W.cell? (ad.add j)=some v:=by
 obtain⟨b,J,rfl,_⟩:=h 0 A;refine⟨_,rfl,fun j v H=>?_⟩;obtain⟨i,G,E⟩:=zN H;obtain⟨b',I,F,_,C,D⟩:=h i G;cases F;rw[XD];rcases E with⟨rfl,rfl⟩ | ⟨rfl,rfl⟩
 ·exact C
 ·rw[<-aP]; exact D
theorem Pcs.take{ps:List P}(h:Pcs B W a ps)(k:Nat):Pcs B W a (ps.take k):=by
 intro i G;have A:i<ps.length:=by rw[aA] at G; omega
 obtain⟨b,H,E,F,C,D⟩:=h i A;exact⟨b,H,E,F,Zu C,Zu D⟩
theorem Pcs.drop{ps:List P}(h:Pcs B W a ps)(k:Nat):Pcs B W (a.map (·.add (k*2))) (ps.drop k):=by
 intro i F;have A:k+i<ps.length:=by rw[ah] at F; omega
 obtain⟨b,G,rfl,E,C,D⟩:=h (k+i) A;refine⟨b,G+k*2,by rw[Option.map_some,XD],E,?_,?_⟩
 ·rw[show G+k*2+i*2=G+(k+i)*2 from Zo]; simpa using C
 ·rw[show G+k*2+i*2+1=G+(k+i)*2+1 from Zo]; simpa using D
theorem Pcs.row{t:TypeId}{ps:List P}(h:W.heap[g]? = some (.cells (gD ps).toArray t (0,0))):Pcs W W (some ⟨g,0,none⟩) ps:=by
 intro i A;refine⟨g,0,rfl,(XA.1 h).1,?_,?_⟩
 ·have:=(nH ps i A).1;simp only[World.cell?,h,aZ];simpa using this
 ·have:=(nH ps i A).2;simp only[World.cell?,h,aZ];simpa using this
theorem Hm(cur X1 X2:List Value)(u v:Value)(C:cur.length=X1.length+2+X2.length):
  splice (((splice cur 0 X1).set X1.length u).set (X1.length+1) v) (X1.length+2) X2=X1++u::v::X2:=by
 have e1:splice cur 0 X1=X1++cur.drop X1.length:=by simp[splice]
 obtain⟨c1,c2,r,A⟩:∃c1 c2 r,cur.drop X1.length=c1::c2::r:=by
  match h:cur.drop X1.length with
  | []=>have:=congrArg List.length h; simp at this; omega
  | [_]=>have:=congrArg List.length h; simp at this; omega
  | c1::c2::r=>exact⟨c1,c2,r,rfl⟩
 have B:r.length=X2.length:=by have:=congrArg List.length A; simp at this; omega
 rw[e1,A];have e2:((X1++c1::c2::r).set X1.length u).set (X1.length+1) v=X1++u::v::r:=by
  rw[List.set_append_right _ _ nr,List.set_append_right _ _ Zo];simp
 rw[e2];have e3:(X1++u::v::r).take (X1.length+2)=X1++[u,v]:=by rw[List.take_append]; simp[ag]
 have e4:(X1++u::v::r).drop (X1.length+2+X2.length)=[]:=kR Zt;unfold splice;rw[e3,e4];simp
theorem wB(W:World):(sizeOf (prog.elem 30)).run prog W=.ok 2 W:=by
 obtain⟨i,B,_,C,_⟩:=XR Ah;rw[show prog.elem 30=78 by kernel_rfl];simp[sizeOf,typeInfo,B,C]
theorem KA(a:Qa)(n c f:Nat)(h:f<=c):∃(A1:Qa) (c1:Nat),(∀B W ps,Pcs B W a ps->Pcs B W A1 (ps.take f))/\∀W,(Instr.slice 30 (.slice a n c) none (some (Yi f)) none).run prog W=.ok (.slice A1 f c1) W:=by
 refine⟨if c=0 then a else a.map (·.add (0*2)),c,fun B W ps C=>?_,fun W=>?_⟩
 ·split
  ·exact C.take f
  ·have:=(C.take f).drop 0;simpa using this
 ·rw[run_slice_h (P:=prog) W 30 a n c Zk .i64 f Zo Zo,wB];simp[sliced,Result.andThen]
theorem DC(a:Qa)(n c t:Nat)(h:t<=n)(F:n<=c):∃(A1:Qa) (c1:Nat),(∀B W ps,ps.length=n->Pcs B W a ps->Pcs B W A1 (ps.drop t))/\(∀ad,a=some ad->t<n->A1=some (ad.add (t*2)))/\∀W,(Instr.slice 30 (.slice a n c) (some (Yi t)) none none).run prog W=.ok (.slice A1 (n-t) c1) W:=by
 refine⟨if c=t then a else a.map (·.add (t*2)),c-t,fun B W ps G E=>?_,fun ad C H=>?_,fun W=>?_⟩
 ·split
  ·rw[kR Zo]; intro i D; simp at D
  ·exact E.drop t
 ·rw[if_neg Zo,C]; rfl
 ·rw[run_slice_l (P:=prog) W 30 a n c Zk .i64 t Zo Zo,wB];simp[sliced,Result.andThen]
theorem K4{base e size n:Nat}{xs:List Value}(h:w'.ownsRow base e size (.slice g n n) n xs):∃C:List Value,C.length=n*size/\w'.heap[g]? = some (.cells C.toArray e (0,0)):=by
 rcases h.2 with⟨A,_⟩ | ⟨g',D,C,A,_,B,_,_,hs,_⟩
 ·cases A
 ·cases A
  exact⟨C.toList,Zu hs,Zu B⟩
theorem ze(h:w.grownBy w' none):PM w w':=⟨h.os,h.tape,h.output,h.size,fun k A=>h.block k A Zs⟩
theorem M8{k:Nat}{t:TypeId}(u v:Value)(h:w.heap[g]? = some (.cells L.toArray t (0,0))):
  ((w.setCell ⟨g,k,none⟩ u).setCell ⟨g,k+1,none⟩ v).heap[g]? = some (.cells ((L.set k u).set (k+1) v).toArray t (0,0)):=by
 rw[setCell_eq_setRow w g k L.toArray t (0,0) u h];have A:=setRow_heap w g L.toArray (L.toArray.setIfInBounds k u) t (0,0) h;rw[setCell_eq_setRow _ g (k+1) _ t (0,0) v A,setRow_heap _ g _ _ t (0,0) A];simp
theorem DT{t:TypeId}(h:w.heap[g]? = some (.cells L.toArray t (0,0)))(A:k<L.length):∃x,w.cell? ⟨g,k,none⟩=some x:=by
 refine⟨L[k],?_⟩;simp[World.cell?,h,A]
theorem DN{t:TypeId}(h:w.heap[g]? = some (.cells L.toArray t (0,0))):w.frozen? ⟨g,k,none⟩=false:=by
 simp[World.frozen?,h]
