/- Lemmas. -/
import Derived.Test.YtkedhdcnakhbgaaGreatAb
import Derived.Test.YtkedhdcnakhbgaaGreatProg
import Derived.WalkKit
import Derived.WalkSpells
import Derived.WalkLawsBesides
import Derived.Lib.Hide
import Derived.RegionTactic
import Derived.ChangeAlike
import Derived.Deep.RegionWith
import Derived.Lib.FrozenHead2
import Derived.Lib.OthersKept
import Derived.Lib.Builder
import Derived.Lib.UnsafeStr
import Derived.RangeFuncNested
import Derived.RangeFuncBound
import Derived.RangeFuncCalls
import Derived.RangeFuncLeaves
import Derived.Shelf.Abstract
import Derived.Shelf.RegionOpen
import Derived.OwnWalkIn
import Derived.TacticsInMore
import Derived.LoopNIn
import Derived.LoopIn
import Derived.Deep.QuietTactic
import Derived.BigQuiet
import Derived.Lib.QuietBelow
import Derived.Laws.StructEq
import Derived.ChangeKeysEq
import Derived.Deep.RegionLaw
import Derived.Deep.AppendLies
import Derived.Deep.DeepCutAuto
import Derived.Deep.CutBlock
import Derived.Deep.CutRange
import Derived.Laws.Concat
import Derived.Lib.IndexBytes
set_option linter.unusedSimpArgs false
set_option maxRecDepth 100000
set_option maxHeartbeats 16000000
namespace Go.Proofs.YtkedhdcnakhbgaaGreat
open Tryz
-- short names for the walks' rewriting of slots
theorem zA{α:Type}{l:List α}{i:Nat}(h:i<l.toArray.size):l.toArray[i]=l[i]'h:=rfl
theorem zB{α:Type}(a:α)(l:List α)(i:Nat)(h:i+1<(a::l).length):(a::l)[i+1]=l[i]'(Nat.lt_of_succ_lt_succ h):=rfl
theorem zC{α:Type}(a:α)(l:List α)(h:0<(a::l).length):(a::l)[0]=a:=rfl
theorem zD{α:Type}(l:List α)(i:Nat)(a:α):l.toArray.setIfInBounds i a=(l.set i a).toArray:=Zs
theorem zE{α:Type}{a b:α}{l:List α}:(a::l).set 0 b=b::l:=rfl
theorem zF{α:Type}{a b:α}{l:List α}{i:Nat}:(a::l).set (i+1) b=a::l.set i b:=rfl
end Go.Proofs.YtkedhdcnakhbgaaGreat
namespace Go.Proofs.YtkedhdcnakhbgaaGreat.Cw
open Tryz
def encF:Nat->Nat->Qb
 | 0,_=>[]
 | f+1,n=>if n<128 then[UInt8.ofNat n] else UInt8.ofNat (n%128+128)::encF f (n/128)
def enc(n:Nat):Qb:=encF 10 n
def getGo:Nat->Nat->Int->Int->Qb->Int×Int×Int
 | 0,_,_,_,_=>(0,0,13)
 | _+1,_,_,_,[]=>(0,0,12)
 | f+1,i,n,u,c::r=>
  if 128<=c.toNat then getGo f (i+1) (n+((c.toNat:Int)-128)*u) (u*128) r
  else if(c.toNat=0/\0<i)\/1099511627776<n+(c.toNat:Int)*u then(0,0,13)
  else(n+(c.toNat:Int)*u,(i:Int)+1,0)
def getI(l:Qb):Int×Int×Int:=getGo 6 0 0 1 l
def getT(l:Qb):Qb×Int×Int:=
 if(getI l).2.2≠0 then([],0,(getI l).2.2)
 else if 65536<(getI l).1 then([],0,13)
 else if(l.length:Int)-(getI l).2.1<(getI l).1 then([],0,12)
 else((l.drop (getI l).2.1.toNat).take (getI l).1.toNat,(getI l).2.1+(getI l).1,0)
def inR(n:Int):Bool:=decide (0<=n)&&decide (n<=1099511627776)
theorem inR_iff(n:Int):inR n=true↔0<=n/\n<=1099511627776:=by simp[inR]
end Go.Proofs.YtkedhdcnakhbgaaGreat.Cw
namespace Go.Proofs.YtkedhdcnakhbgaaGreat
open Tryz
open Go.RowKit
theorem PI(d b:Int)(B:0<=d)(C:d<=255)(A:0<=b)(D:b<=34359738368):0<=d*b/\d*b<=8761733283840:=
 ⟨Int.mul_nonneg B A,by have:=Int.mul_le_mul C D A Zo; omega⟩
theorem idx(s:ByteArray)(k:Nat)(hs:k<s.size):∃d:Int,0<=d/\d<=255/\d=(s.data.toList.getD k 0).toNat/\∀w,(Instr.index 9 (.string s) (Yi k)).run prog w=.ok (Yb d) w:=by
 have e:s.data.toList.getD k 0=s[k]:=by
  have B:k<s.data.toList.length:=Zu hs;simp[List.getD,Array.getElem?_eq_getElem (show k<s.data.size from hs)]; rfl
 refine⟨s[k].toNat,Zo,Zh (s[k].toNat_lt),by rw[e],fun w=>?_⟩;simp[go_sem,hs]
theorem uR(l:Qb)(k:Nat)(h:k<l.length):l.drop k=l.getD k 0::l.drop (k+1):=by
 rw[aN h]; simp[List.getD,h]
theorem Ml(k:Nat)(h:k<6):(128:Int)^k<=34359738368:=by
 match k,h with
 | 0,_=>decide
 | 1,_=>decide
 | 2,_=>decide
 | 3,_=>decide
 | 4,_=>decide
 | 5,_=>decide
def gQ(s:ByteArray)(k:Nat)(a b:Int):Prop:=
 b=128^k/\a<b/\Cw.getGo (6-k) k a b (s.data.toList.drop k)=Cw.getI s.data.toList
theorem gQ.go{s:ByteArray}{k:Nat}{a b d:Int}(h:gQ s k a b)(G:k<6)(hs:k<s.size)(E:0<=a)(C:d=(s.data.toList.getD k 0).toNat)(F:128<=d):
  gQ s (k+1) (a+(d-128)*b) (b*128):=by
 obtain⟨B,A,h⟩:=h;have D:d<=255:=Zh ((s.data.toList.getD k 0).toNat_lt);refine⟨by rw[B,Int.pow_succ],?_,?_⟩
 ·have:(d-128)*b<=127*b:=Int.mul_le_mul_of_nonneg_right Zo Zo;omega
 ·rw[uR _ _ (Zu hs),show 6-k=(6-(k+1))+1 from Zo] at h;rw[<-h,Cw.getGo,if_pos Zo,C]
theorem gQ.bad{s:ByteArray}{k:Nat}{a b d:Int}(h:gQ s k a b)(F:k<6)(hs:k<s.size)(B:d=(s.data.toList.getD k 0).toNat)(E:d<128)(C:(d=0/\0<k)\/1099511627776<a+d*b):
  Cw.getI s.data.toList=(0,0,13):=by
 obtain⟨_,_,h⟩:=h;rw[uR _ _ (Zu hs),show 6-k=(6-(k+1))+1 from Zo] at h;rw[<-h,Cw.getGo,if_neg Zo,if_pos];rcases C with⟨D,A⟩ | A
 ·exact .inl ⟨Zo,A⟩
 ·exact .inr (B▸A)
theorem gQ.good{s:ByteArray}{k:Nat}{a b d:Int}(h:gQ s k a b)(E:k<6)(hs:k<s.size)(B:d=(s.data.toList.getD k 0).toNat)(D:d<128)(F:d≠0\/k=0)(G:a+d*b<=1099511627776):
  Cw.getI s.data.toList=(a+d*b,(k:Int)+1,0):=by
 obtain⟨_,_,h⟩:=h;rw[uR _ _ (Zu hs),show 6-k=(6-(k+1))+1 from Zo] at h;rw[<-h,Cw.getGo,if_neg Zo,if_neg,B];rintro(⟨C,A⟩ | A)
 ·omega
 ·rw[<-B] at A; omega
theorem gQ.short{s:ByteArray}{k:Nat}{a b:Int}(h:gQ s k a b)(A:k<6)(hs:s.size<=k):Cw.getI s.data.toList=(0,0,12):=by
 obtain⟨_,_,h⟩:=h;rw[kR (Zu hs),show 6-k=(6-(k+1))+1 from Zo] at h;rw[<-h,Cw.getGo]
theorem gQ.out{s:ByteArray}{a b:Int}(h:gQ s 6 a b):Cw.getI s.data.toList=(0,0,13):=by
 obtain⟨_,_,h⟩:=h;rw[<-h]; rfl
theorem gQ.start(s:ByteArray):gQ s 0 0 1:=⟨rfl,Zo,rfl⟩
def T3(x:Int×Int×Int):Ending:=.returned (.tuple #[Yi x.1,Yi x.2.1,Yi x.2.2])
theorem vU{x:Int×Int×Int}{a b c:Int}(h:x=(a,b,c)):Ending.returned (.tuple #[Yi a,Yi b,Yi c])=T3 x:=Zw h
theorem Gb(s:ByteArray)(w:World):
  Qh 125 #[.string s] w fun e w'=>e=T3 (Cw.getI s.data.toList)/\w=w':=by
 go_enter func125,ntmps125;go_wp2;go_loop [5,6,9] (fun n u i=>∃(k:Nat) (a b:Int),k<=6/\0<=a/\1<=b/\i=Yi k/\n=Yi a/\u=Yi b/\gQ s k a b) (fun _ _ i=>6-(intOf i).toNat)
 case atStart=>exact⟨0,0,1,Zo,Zo,Zo,rfl,rfl,rfl,gQ.start s⟩
 case round=>
  obtain⟨k,a,b,X,N,W,rfl,rfl,rfl,C⟩:=hrel;by_cases D:k<6
  ·have H:b<=34359738368:=by rw[C.1]; exact Ml k D
   have O:=C.2.1;by_cases hs:k<s.size
   ·obtain⟨d,R,Q,I,L⟩:=idx s k hs;have G:=Qf I;clear I;have S:=PI d b Zo Q Zo H;by_cases P:128<=d
    ·have T:=PI (d-128) b Zo Zo Zo H;have B:=Qf (C.go D hs N G.o P);clear C;go_wp2;go_round
     case rel=>exact⟨k+1,_,_,Zo,Zo,Zo,Zg,rfl,rfl,B.o⟩
     case measure=>exact Yq
    ·have E:d<128:=Zo;by_cases F:d=0
     ·by_cases J:0<k
      ·have B:=Qf (vU (C.bad D hs G.o E (.inl ⟨F,J⟩)));clear C;subst F;go_wp2
       all_goals first | (exfalso; omega) | (go_ret3; exact⟨B.o,rfl⟩)
      ·have K:a+d*b<=1099511627776:=by subst F; have:=C.1; (obtain rfl:k=0:=Zo); simp at this; simp; omega
       have B:=vU (C.good D hs G.o E Zo K);clear C;subst F;rw[Int.zero_mul,Int.add_zero] at B;have M:Qg (Ending.returned (.tuple #[Yi a,Yi 1,Yi 0])=T3 (Cw.getI s.data.toList)):=by
        obtain rfl:k=0:=Zo;exact B
       have B:=Qf B;go_wp2
       all_goals first | (exfalso; omega) | (go_ret3; first | exact⟨B.o,rfl⟩ | exact⟨M.o,rfl⟩)
     ·have V:(d==0)=false:=Zu F;by_cases U:1099511627776<a+d*b
      ·have B:=Qf (vU (C.bad D hs G.o E (.inr U)));clear C;go_wp2
       all_goals first | (exfalso; omega) | (go_ret3; exact⟨B.o,rfl⟩)
      ·have B:=Qf (vU (C.good D hs G.o E (.inl F) Zo));clear C;go_wp2
       all_goals first | (exfalso; omega) | (go_ret3; exact⟨B.o,rfl⟩)
   ·have B:=Qf (vU (C.short D Zo));clear C;go_wp2;go_ret3;exact⟨B.o,rfl⟩
  ·obtain rfl:k=6:=Zo;have B:=Qf (vU C.out);clear C;go_wp2;go_ret3;exact⟨B.o,rfl⟩
theorem xN(s:ByteArray)(w:World):
  Qh 153 #[.string s] w fun e w'=>e=T3 (Cw.getI s.data.toList)/\w=w':=by
 go_enter func153,ntmps153;go_wp2;go_loop [5,6,7] (fun n u i=>∃(k:Nat) (a b:Int),k<=6/\k<=s.size/\0<=a/\1<=b/\i=Yi k/\n=Yi a/\u=Yi b/\gQ s k a b) (fun _ _ i=>6-(intOf i).toNat)
 case atStart=>exact⟨0,0,1,Zo,Zo,Zo,Zo,rfl,rfl,rfl,gQ.start s⟩
 case round=>
  obtain⟨k,a,b,hk,A0,W,hb,rfl,rfl,rfl,C⟩:=hrel;by_cases B:k<6
  ·have J:b<=34359738368:=by rw[C.1]; exact Ml k B
   have X:=C.2.1;by_cases hs:k<s.size
   ·obtain⟨d,Z,hd,M,S⟩:=idx s k hs;have P:=Qf M;clear M;have N:((k:Int)==(s.size:Int))=false:=Zy XK;by_cases Y:128<=d
    ·have I:=Qf (C.go B hs W P.o Y);clear C;obtain⟨x,rfl⟩:∃x,d=x+128:=⟨d-128,Zo⟩;have hx:(x+128)%128=x:=Zo;have E:=PI x b Zo Zo Zo J;rw[Int.mul_comm] at E;have T:Qg (gQ s (k+1) (a+b*x) (b*128)):=by
      have:=I.o;rw[show(x+128-128)=x from Zo,Int.mul_comm x b] at this; exact this
     go_wp2;go_round
     case rel=>exact⟨k+1,_,_,Zo,Zo,Zo,Zo,Zg,rfl,rfl,T.o⟩
     case measure=>exact Yq
    ·have K:d<128:=Zo;obtain⟨F,G⟩:=Yj (fun h=>vU (C.bad B hs P.o K h)) (fun h U=>vU (C.good B hs P.o K h U));clear C;have E:=PI d b Zo Zo Zo J;have L:=Int.mul_comm d b;rw[L] at E F G;clear L;have hx:d%128=d:=Zo;by_cases V:1099511627776<a+b*d
     ·go_wp2;go_ret3;exact⟨F.o (.inr V),rfl⟩
     ·by_cases Q:0<k
      ·by_cases H:d=0
       ·have O:=Qf (F.o (.inl ⟨H,Q⟩));have R:(d==0)=true:=Zu H;clear F G H;go_wp2;go_ret3;exact⟨O.o,rfl⟩
       ·have D:=Qf (G.o (.inl H) Zo);have R:(d==0)=false:=Zu H;clear F G H;go_wp2;go_ret3;exact⟨D.o,rfl⟩
      ·have D:=Qf (G.o (.inr Zo) Zo);clear F G;go_wp2;go_ret3;exact⟨D.o,rfl⟩
   ·have I:=Qf (vU (C.short B Zo));have N:((k:Int)==(s.size:Int))=true:=Zy XS;clear C;go_wp2;go_ret3;exact⟨I.o,rfl⟩
  ·obtain rfl:k=6:=Zo;have I:=Qf (vU C.out);clear C;go_wp2;go_ret3;exact⟨I.o,rfl⟩
def eU(f:Nat)(n:Int):Prop:=n<128^f
theorem Df(W:World)(b:Nat)(c:Int)(h:W.cell? b=some (Yb c)):
  (convert 116 9 (.slice b 1 1)).run prog W=.ok (.string ⟨#[UInt8.ofNat c.toNat]⟩) W:=by
 rw[run_convert_bytes_string W 116 9 5 (some ⟨b,0,none⟩) 1 1 underlying116 underlying5 underlying9];have C:=run_loadCells_list (P:=prog) W ⟨b,0,none⟩ [Yb c] (fun j v B=>by
  match j,B with
  | 0,B=>simp at B; subst B; simpa[Addr.add] using h)
 rw[run_bytesToString W ⟨b,0,none⟩ 1 1 [c] C];rfl
theorem EE(w:World)(c:Int):(convert 116 9 (.slice w 1 1)).run prog (w.alloc (.cells #[Yb c] 5))=.ok (.string ⟨#[UInt8.ofNat c.toNat]⟩) (w.alloc (.cells #[Yb c] 5)):=
 Df _ _ c Zs
theorem yK(w:World)(c:Int):(convert 116 9 (.slice w 1 1)).run prog (w.alloc (.cells #[Yb c] 5)).drew=.ok (.string ⟨#[UInt8.ofNat c.toNat]⟩) (w.alloc (.cells #[Yb c] 5)).drew:=
 Df _ _ c Zs
theorem xx(f:Nat)(n:Int)(h:n<128):Cw.encF (f+1) n.toNat=[UInt8.ofNat n.toNat]:=by
 rw[Cw.encF,if_pos Zo]
theorem Gi(f:Nat)(n:Int)(h:128<=n):Cw.encF (f+1) n.toNat=UInt8.ofNat (128+n%128).toNat::Cw.encF f (n/128).toNat:=by
 rw[Cw.encF,if_neg Zo];rw[show n.toNat%128+128=(128+n%128).toNat from Zo,show n.toNat/128=(n/128).toNat from Zo]
theorem nN:∀(f n:Nat),(Cw.encF f n).length<=f
 | 0,_=>nr
 | f+1,n=>by
  unfold Cw.encF;have:=nN f (n/128);split <;> simp; omega
theorem Cc{l l':Qb}{s:ByteArray}(hs:s=⟨l.toArray⟩)(h:l=l'):Ending.returned (.string s)=.returned (.string ⟨l'.toArray⟩):=by rw[hs,h]
theorem Fz(f:Nat):∀(n:Int) (w:World),f<=9->eU (f+1) n->0<=n->n<=140737488355328->
  Qh 143 #[Yi n] w (Xz (.string ⟨(Cw.encF (f+1) n.toNat).toArray⟩) w):=by
 induction f with
 | zero=>
  intro n w _ h J _;have F:n<128:=by unfold eU at h; simpa using h
  clear h;have G:=EE;have B:=Qf (xx 0 n F);go_enter func143,ntmps143;go_wp2;go_ret;exact⟨Cc rfl B.o.symm,ba _ _⟩
 | succ f ih=>
  intro n w N h J S;have IH:=Qf ih;clear ih;have G:=EE;by_cases F:n<128
  ·have B:=Qf (xx (f+1) n F);go_enter func143,ntmps143;go_wp2;go_ret;exact⟨Cc rfl B.o.symm,ba _ _⟩
  ·have B:=Qf (Gi (f+1) n Zo);have I:Qg (eU (f+1) (n/128)):=by
    unfold eU at h ⊢;rw[Int.pow_succ] at h;exact Int.ediv_lt_of_lt_mul Zo h
   clear h;have M:=yK;obtain⟨L,C⟩:=Qe (Cw.encF (f+1) (n/128).toNat);have V:Qg (∀w:World,Qh 143 #[Yi (n/128)] w (Xz (.string ⟨L.toArray⟩) w)):=
    Qf (by rw[C]; exact fun w=>IH.o (n/128) w Zo I.o Zo Zo)
   have O:L.length<=10:=C▸aC (nN _ _) (by omega);have E:Qg (Cw.encF (f+1+1) n.toNat=UInt8.ofNat (128+n%128).toNat::L):=Qf (C▸B.o);clear B C IH I;have K:=fun W=>run_string_add_lists (P:=prog) W [UInt8.ofNat (128+n%128).toNat] L Zs Zo
   go_enter func143,ntmps143;go_wp2_with fail;have T:IntKind.i64.wrap (n.tdiv 128)=n/128:=IntWalk.i64_quo n 128 Zo;have U:IntKind.u8.wrap (IntKind.i64.wrap (128+n.tmod 128))=128+n%128:=by
    rw[Int.tmod_eq_emod_of_nonneg J,IntWalk.i64_in _ Zo];exact IntWalk.u8_in _ Zo
   go_region_with (go_at_call 143; refine(V.o _).mono ?_; rintro e w' ⟨rfl,D⟩; have R:=fun H Q=>Df w' (w:Nat) (128+n%128) ((D.cell (p:=⟨w,0,none⟩) H).trans Q))
   all_goals
    go_wp2;go_ret;refine⟨Cc rfl E.o.symm,?_⟩
    first
     | exact(((ba w _).drew).trans (D.mono Zs))
     | exact((bf w).drew.trans D).alloc (D.size) _
theorem zG(n:Int)(w:World)(B:0<=n)(C:n<=140737488355328):
  Qh 143 #[Yi n] w (Xz (.string ⟨(Cw.enc n.toNat).toArray⟩) w):=
 Fz 9 n w nr (by unfold eU; (have:(128:Int)^(9+1)=1180591620717411303424:=Zd); rw[this]; omega) B C
def T2s(l:Qb)(e:Int):Ending:=.returned (.tuple #[l,Yi e])
def GM(n:Int):Qb×Int:=if Cw.inR n then(Cw.enc n.toNat,0) else([],2)
theorem xM(n:Int)(w:World):
  Qh 142 #[Yi n] w fun e w'=>e=T2s (GM n).1 (GM n).2/\PM w w':=by
 by_cases h:0<=n/\n<=1099511627776
 ·have B:GM n=(Cw.enc n.toNat,0):=if_pos ((Cw.inR_iff n).2 h);obtain⟨C,E⟩:=h;rw[B];clear B;have D:=Qf (fun w=>zG n w C Zo);go_enter func142,ntmps142;go_wp2_with (go_at_call 143; refine(D.o _).mono ?_; rintro e w' ⟨rfl,F⟩);go_ret2;exact⟨rfl,F⟩
 ·have B:GM n=([],2):=if_neg (by rw[Cw.inR_iff]; exact h);rw[B];clear B;by_cases C:n<0
  ·clear h;go_enter func142,ntmps142;go_wp2;go_ret2;exact⟨rfl,bf _⟩
  ·have E:1099511627776<n:=Zo;clear h;go_enter func142,ntmps142;go_wp2;go_ret2;exact⟨rfl,bf _⟩
theorem Mr:(prog.info? 118).map (·.size)=some 2:=Zk
theorem OQ:liesAt prog prog.depth 118 (2/prog.cellsOf 118) 0 118 1=true:=Zk
theorem QC:(prog.info? 5).map (fun i=>(i.zero,i.size,i.bytes))=some (some (Yb 0),1,1):=Zk
theorem U6:prog.cellsOf 5=1:=Zk
theorem vP(b:Nat)(w:World)(C:w.cell? b=some (.pointer b)):
  Qh 131 #[.pointer b] w fun e w'=>e=.returned (.tuple #[])/\w=w':=by
 obtain⟨j,B,_⟩:=Option.map_eq_some_iff.1 Mr;go_enter func131,ntmps131;go_wp2;rw[Lib.run_neq_ptr_same w _ underlying115 B];go_wp2;go_end0;exact⟨rfl,rfl⟩
theorem uZ(b:Nat)(w:World)(F:w.cell? b=some (.pointer none))(B:w.shape? b=some (118,2))(E:w.frozen? b=false):
  Qh 131 #[.pointer b] w fun e w'=>e=.returned (.tuple #[])/\w.setCell b (.pointer b)=w':=by
 obtain⟨j,D,C⟩:=Option.map_eq_some_iff.1 Mr;go_enter func131,ntmps131;go_wp2;rw[Lib.run_to_unsafe w ⟨b,0,none⟩ underlying115 underlying235 D (by rw[C]; decide) B (Nat.zero_lt_succ 1)];simp only[Result.andThen];rw[Oper.upon_value];go_wp2;rw[run_callFunc_extern func180 Zk Zk Zk (e:=Extern.AbiNoEscape.same) Zk];rw[Lib.run_noEscape];simp only[Result.andThen];rw[Oper.upon_value];go_wp2;rw[Lib.run_from_unsafe w ⟨b,0,none⟩ underlying235 underlying115 D B OQ];simp only[Result.andThen];rw[Oper.upon_value];go_wp2;go_end0;exact⟨rfl,rfl⟩
abbrev Bld(B b:Nat)(l:Qb)(w:World):Prop:=Lib.IsBuilderF 118 5 B b (Lib.byteCells l) w
abbrev Sd(b:Nat)(w w':World):Prop:=Lib.OthersKept 5 (some b) w w'
theorem uY(B b:Nat)(bs:List Value)(w:World)(h:Lib.IsBuilderF 118 5 B b bs w):
  Qh 131 #[.pointer b] w fun e w'=>e=.returned (.tuple #[])/\(Lib.BuilderAtF 118 5 B b (.pointer b) bs w'/\Below B w w'/\Sd b w w'):=by
 rcases h with h | h
 ·refine(uZ b w h.cell0 h.shape h.frozen0).mono ?_;rintro e w' ⟨rfl,rfl⟩;exact⟨rfl,h.used _,(Below.refl B w).setCell (p:=⟨b,0,none⟩) h.1 _,(Lib.OthersKept.refl _ _ w).setCell b rfl _⟩
 ·refine(vP b w h.cell0).mono ?_;rintro e w' ⟨rfl,rfl⟩;exact⟨rfl,h,Below.refl B _,Lib.OthersKept.refl _ _ _⟩
theorem sW(B b:Nat)(bs:List Value)(c:Int)(w:World)(h:Lib.IsBuilderF 118 5 B b bs w)(R:bs.length+1<=140737488355328)(V:B<=(w:Nat)):
  Qh 130 #[.pointer b,Yb c] w fun e w'=>e=.returned .nilIface/\(Lib.BuilderAtF 118 5 B b (.pointer b) (bs++[Yb c]) w'/\Below B w w'/\Sd b w w'):=by
 obtain⟨i0,W,N,O,P⟩:=XR QC;go_enter func130,ntmps130;go_wp2_with (go_at_call 131; refine(uY B b bs _ h).mono ?_);rintro e w1 ⟨rfl,U,F,K⟩;obtain⟨Q,v,H,D,M⟩:=U;have c0:w1.cell? b=some (.pointer b):=Zc H;have c1:w1.cell? ⟨b,1,none⟩=some v:=Zc H;go_wp2_with (at_builtin; refine wpList_append_ownF _ rfl _ _ 116 rfl B 5 i0 (Yb 0) 1 1 underlying116 W N O P rfl Zd _ _ _ rfl (D.alloc _) ⟨w1,0,none⟩ 1 1 [Yb c] rfl rfl ?c1 ?c2 ?c3 ?c4 ?c5 ?_)
 case c1=>
  intro j u I
  match j,I with
  | 0,I=>simp at I; subst I; simp[Addr.add]
 case c2=>intro u S; simp at S; subst S; rfl
 case c3=>unfold maxLen; omega
 case c4=>omega
 case c5=>have:=F.size; simp; omega
 intro v' w2 E C _;have L:b<(w1:Nat):=by
  rcases gB b (w1:Nat) with J | J
  ·exact J
  ·simp[Array.getElem?_eq_none J] at H
 have G:w2.heap[b]? = some (.cells #[.pointer b,v] 118 (0,0)):=by
  rw[C.block b Zt (fun e=>M e.symm),Lib.alloc_old w1 _ b L];exact H
 have d0:w2.cell? b=some (.pointer b):=Zc G;have d1:w2.cell? ⟨b,1,none⟩=some v:=Zc G;have f1:w2.frozen? ⟨b,1,none⟩=false:=YK G 1;obtain⟨g,A0,rfl⟩:∃g A0,v'=.slice (some ⟨g,0,none⟩) (bs.length+1) A0:=by
  rcases E.2 with⟨_,Z⟩ | ⟨g,A0,A1,fz,Y,_⟩
  ·omega
  ·exact⟨g,A0,Y⟩
 go_wp2;go_ret;refine⟨rfl,?_,?_,((K.alloc _).grown C (Lib.ownsRowF_kind (D.alloc _))).setCell ⟨b,1,none⟩ rfl _⟩
 ·exact Lib.BuilderAtF.put (T:=118) (e:=5) Q G (bs':=bs++[Yb c]) (Zu E) Zd
 ·exact((F.alloc (Zh F.size) _).grown C (by have:=F.size; simp; omega) (fun k X=>(D.lt k X).1)).setCell (p:=⟨b,1,none⟩) Q _
theorem jW(B b:Nat)(bs:List Value)(s:ByteArray)(w:World)(h:Lib.IsBuilderF 118 5 B b bs w)(R:bs.length+s.size<=140737488355328)(U:B<=(w:Nat)):
  Qh 73 #[.pointer b,.string s] w fun e w'=>e=.returned (.tuple #[Yi s.size,.nilIface])/\(Lib.BuilderAtF 118 5 B b (.pointer b) (bs++Lib.strCells s) w'/\Below B w w'/\Sd b w w'):=by
 obtain⟨i0,V,N,O,P⟩:=XR QC;go_enter func73,ntmps73;go_wp2_with (go_at_call 131; refine(uY B b bs _ h).mono ?_);rintro e w1 ⟨rfl,S,H,J⟩;obtain⟨Q,v,G,D,L⟩:=S;have c0:w1.cell? b=some (.pointer b):=Zc G;have c1:w1.cell? ⟨b,1,none⟩=some v:=Zc G;go_wp2_with (at_builtin; refine Lib.wpList_append_own_stringF _ rfl _ _ 116 9 rfl B 5 i0 underlying116 underlying9 V N O P _ _ _ rfl D s rfl ?c3 ?c4 ?c5 ?_)
 case c3=>unfold maxLen; omega
 case c4=>omega
 case c5=>have:=H.size; omega
 intro v' w2 E C _;have K:b<(w1:Nat):=by
  rcases gB b (w1:Nat) with I | I
  ·exact I
  ·simp[Array.getElem?_eq_none I] at G
 have F:w2.heap[b]? = some (.cells #[.pointer b,v] 118 (0,0)):=by
  rw[C.block b K (fun e=>L e.symm)];exact G
 have d0:w2.cell? b=some (.pointer b):=Zc F;have d1:w2.cell? ⟨b,1,none⟩=some v:=Zc F;have f1:w2.frozen? ⟨b,1,none⟩=false:=YK F 1;obtain⟨ao,n',X,rfl⟩:∃ao n' X,v'=.slice ao n' X:=by
  rcases E.2 with⟨M,_⟩ | ⟨g,X,Y,fz,M,_⟩
  ·exact⟨_,_,_,M⟩
  ·exact⟨_,_,_,M⟩
 go_wp2;go_ret2;refine⟨rfl,?_,?_,(J.grown C (Lib.ownsRowF_kind D)).setCell ⟨b,1,none⟩ rfl _⟩
 ·exact Lib.BuilderAtF.put (T:=118) (e:=5) Q F (bs':=bs++Lib.strCells s) (by simpa[Lib.strCells_length] using E) Zd
 ·exact(H.grown C (Zh H.size) (fun k W=>(D.lt k W).1)).setCell (p:=⟨b,1,none⟩) Q _
theorem ic(B b:Nat)(l:Qb)(w:World)(h:Bld B b l w)(N:l≠[]):
  Qh 74 #[.pointer b] w fun e w'=>e=.returned (.string ⟨l.toArray⟩)/\(Bld B b l w'/\Below B w w'/\Sd b w w'):=by
 obtain⟨p,W,F⟩:∃p,(p=.pointer none\/p=.pointer b)/\Lib.BuilderAtF 118 5 B b p (Lib.byteCells l) w:=by
  rcases h with h | h
  ·exact⟨_,.inl rfl,h⟩
  ·exact⟨_,.inr rfl,h⟩
 obtain⟨Q,v,E,C,L⟩:=F;have K:l.length≠0:=Zu N;rw[Lib.byteCells_length] at C;obtain⟨g,cap,A0,fz,rfl,H,O,U,V,I,T,M⟩:∃g cap A0 fz,v=.slice (some ⟨g,0,none⟩) l.length cap/\B<=g/\w.heap[g]? = some (.cells A0 5 fz)/\fz.2<=l.length*1/\l.length<=cap/\cap<=maxLen/\A0.size=cap*1/\A0.toList.take (l.length*1)=Lib.byteCells l:=by
  rcases C.2 with⟨_,Z⟩ | ⟨g,cap,A0,fz,X,r⟩
  ·exact absurd Z K
  ·exact⟨g,cap,A0,fz,X,r⟩
 have c1:w.drew.cell? ⟨b,1,none⟩=some (.slice g l.length cap):=by
  have:w.drew.heap[b]? = some (.cells #[p,.slice g l.length cap] 118 (0,0)):=E;rw[Lib.cell_of_heap this]; rfl
 have R:(Builtin.unsafeSliceData_ #[116] 182 #[.slice g l.length cap]).run prog w.drew=.ok (.pointer g) w.drew:=
  Lib.run_unsafeSliceData_row _ _ _ _ _ _ Zo
 have S:(Builtin.unsafeString_ #[182,3] 9 #[.pointer g,Yi l.length]).run prog w.drew=.ok (.string ⟨l.toArray⟩) (w.drew.freeze ⟨g,0,none⟩ l.length):=by
  refine Lib.run_unsafeString_row w.drew 182 3 9 5 underlying182 U6 g A0.size (by have J:w.drew.heap[g]? = some (.cells A0 5 fz):=O; simp[World.shape?,J]) l N Zo (by unfold maxLen at I; omega) ?_;intro j x Y;have:=C.cells (g:=g) rfl j (Yb x.toNat) (by simp[Lib.byteCells,Y]);exact this
 have D:Bld B b l (w.drew.freeze ⟨g,0,none⟩ l.length):=by
  have P:Lib.BuilderAtF 118 5 B b p (Lib.byteCells l) w.drew:=⟨Q,_,E,by rw[Lib.byteCells_length]; exact C,L⟩;have G:=P.froze (g:=g) (cap:=cap) (by rw[Lib.byteCells_length]; exact c1);rw[Lib.byteCells_length] at G;rcases W with rfl | rfl
  ·exact .inl G
  ·exact .inr G
 go_enter func74,ntmps74;go_wp2;go_region
 all_goals (go_wp2; go_ret; exact⟨rfl,D,Lib.below_freeze (Below.drew (Below.refl B w)) (p:=⟨g,0,none⟩) H _,((Lib.OthersKept.refl _ _ w).drew).freeze ⟨g,0,none⟩ _ ⟨A0,fz,O⟩⟩)
variable {F:Fence} {n:Nat} {P:Program}
def Ho{α:Type}(bn:Nat)(I:List α->World->Prop)(xs:List α)(W:World):Exit->Act->World->Prop
 | .normal,_,W'=>KeepsOthers W W'/\W'.heap[bn]? = W.heap[bn]?/\I xs W'
 | _,_,_=>False
theorem jk{α:Type}{g:Operand}{ps:Array Tmp}{assign body:Code}{Q:Exit->Act->World->Prop}{a:Act}{w:World}
  (B3:F.round=none) (h1:1<=n) {gf:Nat} {lb:Array Value} (hg:a.eval g=.func (.func gf) #[] lb) (V:F.fn gf) (eg:∀args w,(callFunc gf args).run P w=.ok (.enter gf args) w)
  {enc:α->Value} {ok:List α->α->Prop} {bn:Nat} {bo:Obj} {xs:List α}
  (M:∀(l:Nat) (J:List α->World->Prop),(∀s W v,J s W->J s (W.setCell bn v))->
   (∀A5 x W,ok A5 x->J A5 W->YieldAt F (n-1-1) P l #[enc x] W fun e W'=>e=.returned (.bool true)/\J (A5++[x]) W'/\W'.heap[bn]? = W.heap[bn]?)->
   ∀W,W.heap[bn]? = some bo->J [] W->CallsIn F (n-1) P gf (#[.func (.yield l) #[] #[]]++lb) W fun e W'=>(∃v,e=.returned v)/\J xs W')
  (B2:ps.size=1) (A3:bn<(w:Nat)) (A1:w.heap[bn]? = some bo)
  (I:List α->World->Prop)
  (G:∀s W l o o',(w:Nat)<=l->W.heap[l]? = some o->o.isCells=false->I s W->I s (W.putObj l o'))
  (R:∀s W o,I s W->I s (W.alloc o))
  (Y:∀s W v,I s W->I s (W.setCell bn v))
  (h0:I [] w) (a₁:α->Act)
  (C:∀(l:Nat) (x:α) (W:World) (K:Act->World->Prop),K (a₁ x) W->
   assign.wpIn (F.inRound l) (n-1-1) P (Exit.then K (fun _ _ _=>False)) { tmps:=(ps.zip #[enc x]).foldl (fun t (p,v)=>t.setIfInBounds p v) a.tmps,defers:=[] } W)
  (H:∀(l:Nat) (A5:List α) (x:α) (W:World),(w:Nat)<=l->ok A5 x->I A5 W->body.wpIn (F.inRound l) (n-1-1) P (Ho bn I (A5++[x]) W) (a₁ x) W)
  (L:∀(D:Nat) (W:World),(w:Nat)<=D->I xs W->W.heap[D]? = some (.deferred (some []))->Q .normal { a with defers:={ target:=.collected D,args:=#[] }::a.defers } W) :
  (Code.rangeFunc g ps assign body).wpIn F n P Q a w:=by
 refine wpIn_rangeFunc ?_;intro fn A4;rw[B3];obtain⟨A7,A⟩:∃A7:LoopState->Option Code->Loop,A7=fun st pe=>{ state:=st,pending:=pe,fn,tmps:=a.tmps,params:=ps,assign,body,defers:=(w:Nat) }:=⟨_,rfl⟩
 obtain⟨W1,B⟩:∃W1,(w.alloc (.deferred (some []))).alloc (.loop (A7 .ready none))=W1:=⟨_,rfl⟩;have A0:W1.heap[(w:Nat)+1]? = some (.loop (A7 .ready none)):=by
  rw[<-B]; have:=YL (w.alloc (.deferred (some []))) (.loop (A7 .ready none)); rwa[XU] at this
 have Z:W1.heap[(w:Nat)]? = some (.deferred (some [])):=by
  rw[<-B]; exact(Below.heap_alloc _ _ _ Zs).trans (YL w _)
 have X:I [] W1:=B▸R _ _ _ (R _ _ _ h0);have A2:W1.heap[bn]? = some bo:=by
  rw[<-B]; exact(Below.heap_alloc _ _ _ Zt).trans ((Below.heap_alloc _ _ _ A3).trans A1)
 refine⟨(w:Nat)+1,[{ target:=.collected (w:Nat),args:=#[] }],W1,{ target:=.fn (.func gf) lb,args:=#[.func (.yield ((w:Nat)+1)) #[] #[]] },W1,gf,
  #[.func (.yield ((w:Nat)+1)) #[] #[]]++lb,W1,?_,?_,?_,?_,fun _=>h1,?_⟩
 ·rw[<-B,A]; exact run_enterLoop_outer _ _ _ _ _
 ·simp only[resolve,hg];simp[go_sem]
 ·intro f' T; simp[Target.leads] at T; subst T; exact V
 ·simp[invoke,go_sem,eg]
 ·refine(M ((w:Nat)+1)
   (fun A5 W=>I A5 W/\W.heap[(w:Nat)+1]? = some (.loop (A7 .ready none))/\W.heap[(w:Nat)]? = some (.deferred (some [])))
   (fun s W v hs=>⟨Y _ _ _ hs.1,(Below.heap_setCell W _ v _ Zt).trans hs.2.1,(Below.heap_setCell W _ v _ Zt).trans hs.2.2⟩)
   ?_ W1 A2 ⟨X,A0,Z⟩).mono ?_
  ·rintro A5 x W B1 ⟨hi,N,hk⟩;have B0:(w:Nat)+1<(W:Nat):=(XA.1 N).1;have hy:=run_yield (P:=P) (args:=#[enc x]) N (by rw[A]; simp[B2]);rw[A] at hy;refine⟨fn,_,assign,body,hy,roundIn_of_wpIn A4 (C _ x W _ ⟨_,run_beginRound N (Zx A),?_⟩)⟩;have A9:(W.putObj ((w:Nat)+1) (.loop { A7 .ready none with state:=.busy })).heap[(w:Nat)+1]? = some (.loop { A7 .ready none with state:=.busy }):=World.putObj_heap_same B0;have A8:(W.putObj ((w:Nat)+1) (.loop { A7 .ready none with state:=.busy })).heap[(w:Nat)]? = some (.deferred (some [])):=(YM Zo).trans hk;refine wpIn_mono (H _ A5 x _ Zo B1 (G _ _ _ _ _ Zo N rfl hi)) ?_;rintro e a3 W3 O;cases e with
   | normal=>
    obtain⟨U,S,A6⟩:=O;have E:=U.same _ _ A9 rfl;have hr:=run_endRound (P:=P) none E;rw[A] at hr E ⊢;refine⟨_,_,hr,rfl,⟨G _ _ _ _ _ Zo E rfl A6,World.putObj_heap_same (XA.1 E).1,(YM Zo).trans (U.same _ _ A8 rfl)⟩,?_⟩;rw[YM Zo,S,YM Zo]
   | ret=>exact O.elim
   | exit id=>exact O.elim
   | goto t=>exact O.elim
   | panic ch=>exact O.elim
   | outgrown=>exact O.elim
  ·rintro e W2 ⟨⟨v,rfl⟩,hi,N,hk⟩;exact⟨none,_,by have:=run_endLoop (P:=P) N (Zn A); rw[A] at this; exact this,L _ _ nr (G _ _ _ _ _ Zo N rfl hi) ((YM Zo).trans hk)⟩
open Go.RowKit Go.Shelf
theorem eU.down{f:Nat}{n:Int}(h:eU (f+1) n):eU f (n/128):=by
 unfold eU at h ⊢;rw[Int.pow_succ] at h;exact Int.ediv_lt_of_lt_mul Zo h
theorem eU.ten{n:Int}(A:n<=140737488355328):eU 10 n:=by
 unfold eU;have:(128:Int)^10=1180591620717411303424:=Zd;rw[this]; omega
attribute [local go_sem] Oper.semAt_some
def Tn:Nat->Int->List Int
 | 0,_=>[]
 | f+1,m=>if m<128 then[m] else(m%128+128)::Tn f (m/128)
def Dx(bn:Nat)(m:Int)(W:World):Prop:=W.heap[bn]? = some (.cells #[Yi m] 3 (0,0))
theorem Dx.cell{bn:Nat}{m:Int}{W:World}(h:Dx bn m W):W.cell? bn=some (Yi m):=Zc h
theorem Dx.frozen{bn:Nat}{m:Int}{W:World}(h:Dx bn m W):W.frozen? bn=false:=YK h 0
theorem Dx.set{bn:Nat}{m:Int}{W:World}(h:Dx bn m W)(k:Int):Dx bn k (W.setCell bn (Yi k)):=by
 unfold Dx at h ⊢;simp[World.setCell,XQ,h]
def okD(pre:List Int)(x:Int):Prop:=0<=x/\x<=255/\pre.length<10
def cellN(bn:Nat)(W:World):Int:=intOf ((W.cell? bn).getD undef)
theorem Dx.cellN{bn:Nat}{m:Int}{W:World}(h:Dx bn m W):cellN bn W=m:=by unfold Go.Proofs.YtkedhdcnakhbgaaGreat.cellN; rw[h.cell]; rfl
def xG(f:Nat)(m:Int)(pre:List Int)(f':Nat)(m':Int):Prop:=
 pre++Tn (f'+1) m'=Tn (f+1) m/\eU (f'+1) m'
theorem xG.stop{f f':Nat}{m m':Int}{pre:List Int}(h:xG f m pre f' m')(A:m'<128):pre++[m']=Tn (f+1) m:=by
 rw[<-h.1,Tn,if_pos A]
theorem xG.go{f f':Nat}{m m':Int}{pre:List Int}(h:xG f m pre f' m')(A:128<=m'):∃g,f'=g+1/\xG f m (pre++[m'%128+128]) g (m'/128):=by
 cases f' with
 | zero=>have:=h.2; unfold eU at this; simp at this; omega
 | succ g=>
  refine⟨g,rfl,?_,h.2.down⟩;have e:Tn (g+1+1) m'=(m'%128+128)::Tn (g+1) (m'/128):=if_neg Zo;rw[<-h.1,e]; simp
theorem xz(F:Fence)(n:Nat)(Q:F.fn 238)(V:F.round=none)(hn:1<=n)(l bn:Nat)(J:List Int->World->Prop)
  (H:∀s W v,J s W->J s (W.setCell bn v))
  (Z:∀A0 x W,okD A0 x->J A0 W->YieldAt F (n-1) prog l #[Yb x] W fun e W'=>e=.returned (.bool true)/\J (A0++[x]) W'/\W'.heap[bn]? = W.heap[bn]?)
  (m:Int) (f:Nat) (hf:f<=9) (T:0<=m) (U:m<=140737488355328) (L:eU (f+1) m) (W:World) (hb:Dx bn m W) (h0:J [] W) :
  CallsIn F n prog 238 (#[.func (.yield l) #[] #[]]++#[.pointer bn]) W fun e W'=>(∃v,e=.returned v)/\J (Tn (f+1) m) W':=by
 refine callsIn_of_wp func238 rfl Q ?_ V;simp only[ntmps238,nU,az,aK,Nat.reduceAdd,Nat.reduceSub,jg,je,nV,jT,aY,bz];obtain⟨Y,HJ⟩:=Yj Z H;clear Z H;gi_wp2;gi_loopw [3] (fun _ wr=>∃(A0:List Int) (f':Nat) (m':Int),Dx bn m' wr/\J A0 wr/\0<=m'/\m'<=140737488355328/\A0.length+f'<=9/\xG f m A0 f' m') (fun _ wr=>(cellN bn wr).toNat)
 case atStart=>exact⟨[],f,m,hb,h0,T,U,Zu hf,Zs,L⟩
 case round=>
  obtain⟨A0,f',m',C,G,M,A3,A2,O⟩:=hrel;have hc:=C.cell;have A8:=C.frozen;have X:=Qf C;clear hb C;by_cases hm:m'<128
  ·have P:=Qf (O.stop hm);clear O;obtain⟨fn,A7,A4,A5,hy,R⟩:=Y.o A0 m' wr ⟨M,Zo,Zo⟩ G;gi_wp2;refine R.mono ?_;rintro e W3 ⟨rfl,D,_⟩;gi_wp2;go_end0;exact⟨⟨_,rfl⟩,P.o▸D⟩
  ·obtain⟨g,K,N⟩:=O.go Zo;have P:=Qf N;have S:A0.length+1+g<=9:=Zo;have HG:=Qf K;clear O N K;obtain⟨fn,A7,A4,A5,hy,R⟩:=Y.o A0 (m'%128+128) wr ⟨Zo,Zo,Zo⟩ G;gi_wp2;refine R.mono ?_;rintro e W3 ⟨rfl,D,I⟩;have B:Dx bn m' W3:=I.trans X.o;have A6:=B.cell;have A1:=B.frozen;have E:=Qf B;clear I B;gi_wp2;go_roundw
   case rel=>exact⟨A0++[m'%128+128],g,m'/128,E.o.set _,HJ.o _ _ _ D,Zo,Zo,Zt,P.o⟩
   case measure=>rw[(E.o.set (m'/128)).cellN,X.o.cellN]; omega
theorem xy(n:Int)(w:World):
  Qh 216 #[Yi n] w fun e w'=>e=.returned (.func (.func 238) #[] #[.pointer w])/\w.alloc (.cells #[Yi n] 3)=w':=by
 go_enter func216,ntmps216;go_wp2;go_ret;exact⟨rfl,rfl⟩
theorem uO:∀(f:Nat) (m:Int),0<=m->(Tn f m).length=(Cw.encF f m.toNat).length
 | 0,_,_=>rfl
 | f+1,m,h=>by
  rw[Tn,Cw.encF];by_cases A:m<128
  ·rw[if_pos A,if_pos Zo]; rfl
  ·rw[if_neg A,if_neg Zo,az,az,uO f (m/128) Zo,show(m/128).toNat=m.toNat/128 from Zo]
theorem xw:∀(f:Nat) (m:Int),0<=m->(Tn f m).map (Value.int .u8)=Lib.byteCells (Cw.encF f m.toNat)
 | 0,_,_=>rfl
 | f+1,m,h=>by
  rw[Tn,Cw.encF];by_cases A:m<128
  ·rw[if_pos A,if_pos Zo];simp[Lib.byteCells]; omega
  ·rw[if_neg A,if_neg Zo,eX,xw f (m/128) Zo,show(m/128).toNat=m.toNat/128 from Zo];simp[Lib.byteCells]; omega
theorem kC(n:Int)(w:World):
  Qh 178 #[Yi n] w fun e w'=>e=.returned (.bool (Cw.inR n))/\w=w':=by
 by_cases C:0<=n
 ·have B:Qg (Cw.inR n=decide (n<=1099511627776)):=Qf (by simp[Cw.inR,C]);go_enter func178,ntmps178;go_wp2;go_ret;exact⟨Zw B.o,rfl⟩
 ·have B:Qg (Cw.inR n=false):=Qf (by simp[Cw.inR,C]);go_enter func178,ntmps178;go_wp2;go_ret;exact⟨Zw B.o,rfl⟩
attribute [local go_sem] Oper.semAt_some
theorem EP{T e:TypeId}{B b:Nat}{bs:List Value}{W:World}{l:Nat}{o o':Obj}(h:Lib.IsBuilderF T e B b bs W)(D:W.heap[l]? = some o)(G:o.isCells=false):
  Lib.IsBuilderF T e B b bs (W.putObj l o'):=by
 have J:∀p,Lib.BuilderAtF T e B b p bs W->Lib.BuilderAtF T e B b p bs (W.putObj l o'):=by
  rintro p ⟨H,v,C,A,F⟩;have E:b≠l:=by
   intro e1; subst e1; rw[C] at D; cases D; cases G
  refine⟨H,v,(YM E).trans C,A.kept (grownBy_putObj' W l o') ?_,F⟩;refine Or.inr (fun e1=>?_);obtain⟨c,fz,I⟩:=Lib.ownsRowF_kind A l e1;rw[I] at D; cases D; cases G
 exact h.elim (fun x=>.inl (J _ x)) (fun x=>.inr (J _ x))
theorem EM{T e:TypeId}{B b:Nat}{bs:List Value}{W:World}{k:Nat}{cs:Array Value}{t:TypeId}{fz:Nat×Nat}(h:Lib.IsBuilderF T e B b bs W)(F:W.heap[k]? = some (.cells cs t fz))(D:k≠b)(J:t≠e)(v:Value):
  Lib.IsBuilderF T e B b bs (W.setCell k v):=by
 have K:∀p,Lib.BuilderAtF T e B b p bs W->Lib.BuilderAtF T e B b p bs (W.setCell k v):=by
  rintro p ⟨G,x,C,A,E⟩;refine⟨G,x,(Below.heap_setCell W _ v b (fun e1=>D e1.symm)).trans C,A.kept (row:=some k) ⟨rfl,rfl,rfl,by simp[World.setCell],fun j _ I=>Below.heap_setCell _ _ _ _ (fun e1=>I (by simp[e1]))⟩ ?_,E⟩;refine Or.inr (fun e1=>?_);obtain⟨c,L,H⟩:=Lib.ownsRowF_kind A k e1;rw[H] at F; cases F; exact J rfl
 exact h.elim (fun x=>.inl (K _ x)) (fun x=>.inr (K _ x))
theorem yQ{T e:TypeId}{B b:Nat}{bs:List Value}{W:World}(h:Lib.IsBuilderF T e B b bs W):b<(W:Nat):=h.elim (·.lt) (·.lt)
structure J3 (w:World) (B b:Nat) (bs:List Value) (pre:List Int) (W:World):Prop where
 bld:Lib.IsBuilderF 118 5 B b (bs++pre.map (Value.int .u8)) W
 below:Below B w W
 kept:Sd b w W
 par:W.heap[(w:Nat)]? = some (.cells #[.pointer b] 115 (0,0))
 box:∃v,W.heap[(w:Nat)+1]? = some (.cells #[v] 3 (0,0))
theorem J3.putObj{w W:World}{B b:Nat}{bs:List Value}{pre:List Int}(h:J3 w B b bs pre W)(H:B<=(w:Nat)){l:Nat}{o:Obj}(o':Obj)(K:(w:Nat)<=l)(A:W.heap[l]? = some o)(C:o.isCells=false):J3 w B b bs pre (W.putObj l o'):=by
 have F:(w:Nat)≠l:=by intro e; rw[<-e,h.par] at A; cases A; cases C
 have G:(w:Nat)+1≠l:=by
  intro e; obtain⟨v,E⟩:=h.box; rw[<-e,E] at A; cases A; cases C
 refine⟨EP h.bld A C,?_,?_,(YM F).trans h.par,?_⟩
 ·exact h.below.trans ⟨rfl,rfl,rfl,Zs,fun k D=>YM Zo⟩
 ·intro k x D I J;have:=(XA.1 D).1;exact(YM Zo).trans (h.kept k x D I J)
 ·obtain⟨v,E⟩:=h.box;exact⟨v,(YM G).trans E⟩
theorem J3.alloc{w W:World}{B b:Nat}{bs:List Value}{pre:List Int}(h:J3 w B b bs pre W)(A:B<=(w:Nat))(o:Obj):J3 w B b bs pre (W.alloc o):=by
 refine⟨h.bld.alloc o,h.below.alloc (aC A h.below.size) o,h.kept.alloc o,?_,?_⟩
 ·exact(Below.heap_alloc W o _ (XA.1 h.par).1).trans h.par
 ·obtain⟨v,C⟩:=h.box;exact⟨v,(Below.heap_alloc W o _ (XA.1 C).1).trans C⟩
theorem J3.set{w W:World}{B b:Nat}{bs:List Value}{pre:List Int}(h:J3 w B b bs pre W)(E:B<=(w:Nat))(G:b<(w:Nat))(v:Value):J3 w B b bs pre (W.setCell ⟨(w:Nat)+1,0,none⟩ v):=by
 obtain⟨v0,A⟩:=h.box;refine⟨EM h.bld A Zo Zd v,h.below.setCell (p:=⟨(w:Nat)+1,0,none⟩) Zt v,?_,?_,?_⟩
 ·intro k x D C F;have:=(XA.1 D).1;exact(Below.heap_setCell W _ v k Zt).trans (h.kept k x D C F)
 ·exact(Below.heap_setCell W _ v _ Zs).trans h.par
 ·exact⟨v,by simp[World.setCell,XQ,A]⟩
theorem wh(B b:Nat)(bs:List Value)(n:Int)(w:World)(h:Lib.IsBuilderF 118 5 B b bs w)(Y:0<=n)(Z:n<=140737488355328)(G:bs.length+10<=140737488355328)(E:B<=(w:Nat)):
  Qh 179 #[.pointer b,Yi n] w fun e w'=>e=.returned (.tuple #[])/\(Lib.IsBuilderF 118 5 B b (bs++Lib.byteCells (Cw.enc n.toNat)) w'/\Below B w w'/\Sd b w w'):=by
 have T:=yQ h;refine(XV (n:=5)).1 ?_;refine callsIn_of_wp_marks func179 rfl trivial ?_ rfl;simp only[ntmps179,nU,az,aK,Nat.reduceAdd,Nat.reduceSub,jg,je,nV,jT,aY,bz];obtain⟨HH,HL⟩:=Yj h G;clear h G;gi_wp2_with (refine⟨trivial,?_⟩; gi_at_call 216; refine(XV.2 (xy _ _)).mono ?_; rintro e w' ⟨rfl,rfl⟩);have Q:J3 w B b bs [] ((w.alloc (.cells #[.pointer b] 115)).alloc (.cells #[Yi n] 3)):=by
  refine⟨by simpa using(HH.o.alloc _).alloc _,((Below.refl B w).alloc E _).alloc Zt _,((Lib.OthersKept.refl _ _ w).alloc _).alloc _,?_,⟨Yi n,?_⟩⟩
  ·exact(Below.heap_alloc _ _ _ Zs).trans (YL w _)
  ·have:=YL (w.alloc (.cells #[.pointer b] 115)) (.cells #[Yi n] 3)
   rwa[XU] at this
 have U:Dx ((w:Nat)+1) n ((w.alloc (.cells #[.pointer b] 115)).alloc (.cells #[Yi n] 3)):=by
  have:=YL (w.alloc (.cells #[.pointer b] 115)) (.cells #[Yi n] 3)
  rwa[XU] at this
 have L:((w.alloc (.cells #[.pointer b] 115)).alloc (.cells #[Yi n] 3)).heap.size=(w:Nat)+2:=Zs;refine jk (α:=Int) (gf:=238) (lb:=#[.pointer (some ⟨(w:Nat)+1,0,none⟩)]) (enc:=fun x=>Yb x) (ok:=okD) (bn:=(w:Nat)+1) (bo:=.cells #[Yi n] 3 (0,0)) (xs:=Tn 10 n)
  rfl Zo rfl trivial (enters_of func238 Zk rfl)
  (fun l J R hY W hb hJ=>xz Fence.wide 4 trivial rfl Zo l ((w:Nat)+1) J R hY n 9 Zo Y Z (eU.ten Z) W hb hJ)
  rfl (Zy L) U (J3 w B b bs)
  (fun s W l o o' hl ho N C=>C.putObj E o' (by rw[L] at hl; omega) ho N)
  (fun s W o C=>C.alloc E o) (fun s W v C=>C.set E T v) Q
  (fun x=>{ tmps:=#[.pointer b,Yi n,.pointer w,undef,Yb x,Yi n,.func (.func 238) #[] #[.pointer (some ⟨(w:Nat)+1,0,none⟩)],Yb x,undef,undef,undef],defers:=[] }) ?assign ?body ?done
 case assign=>
  intro l x W K P;gi_wp2;exact P
 case body=>
  rintro l A0 x W hl V C;have A1:W.cell? w=some (.pointer b):=Zc C.par;have S:B<=(W:Nat):=aC E C.below.size;have HC:Qg ((bs++A0.map (Value.int .u8)).length+1<=140737488355328):=Qf (by have:=V.2.2; have:=HL.o; simp; omega);gi_wp2_with (refine⟨trivial,?_⟩; gi_at_call 130; refine(CallsIn.inRound l (XV.2 (sW B b _ _ _ C.bld HC.o S))).mono ?_; rintro e W' ⟨rfl,h2,M,F⟩);gi_wp2;obtain⟨v,X⟩:=C.box;refine⟨⟨M.size,fun k o O N=>?_⟩,?_,?_⟩
  ·refine F k o O ?_ ?_
   ·intro e1; cases e1;exact(C.bld.elim (fun x=>by obtain⟨_,_,H,_⟩:=x; rw[H] at O; cases O; cases N) (fun x=>by obtain⟨_,_,H,_⟩:=x; rw[H] at O; cases O; cases N))
   ·intro c fz e1; subst e1; cases N
  ·rw[F _ _ X (fun e1=>by cases e1; omega) (fun c fz e1=>by cases e1),X]
  ·refine⟨Or.inr (Zu h2),C.below.trans M,C.kept.trans F,F _ _ C.par (fun e1=>by cases e1; omega) (fun c fz e1=>by cases e1),⟨v,F _ _ X (fun e1=>by cases e1; omega) (fun c fz e1=>by cases e1)⟩⟩
 case done=>
  rintro D W hD C P;gi_wp2;rw[L] at hD;have I:=C.putObj E (.deferred none) Zo P rfl;refine⟨Zs,.inl ⟨_,_,rfl,run_takeDeferred P,?_⟩⟩;refine⟨_,results_none rfl _ _ _,rfl,?_,I.below,I.kept⟩;have:=I.bld
  rwa[xw 10 n Y] at this
set_option linter.unusedVariables false
theorem cK{a b:Bool}(h:a=b):Ending.returned (.bool a)=.returned (.bool b):=Zx h
theorem bH(l:Qb):(l:ByteArray).size=l.length:=by show l.toArray.size=_; simp
theorem aX{w w':World}(h:∃p:Regrown,w'=Go.Sort.grow (redrawn w p.d) p.os):PM w w':=by
 obtain⟨p,rfl⟩:=h; exact below_regrown w p.d p.os
theorem bP{w:World}{p:Addr}{v:Value}(h:w.cell? p=some v)(o:Obj):(w.alloc o).cell? p=some v:=by
 have A:p.block<(w:Nat):=by
  unfold World.cell? at h;cases B:w.heap[p.block]? with
  | none=>simp[B] at h
  | some o=>exact(XA.1 B).1
 exact(((Below.refl (w:Nat) w).alloc nr o).cell A).trans h
theorem NU{w:World}{p:Addr}{v:Value}(h:w.cell? p=some v)(o o':Obj):((w.alloc o).alloc o').cell? p=some v:=bP (bP h o) o'
theorem QG{t:ByteArray}{l:Qb}(h:t.data.toList=l):t=⟨l.toArray⟩:=by
 subst h; cases t; simp
theorem CG:(prog.info? 52).map (fun i=>(i.zero,i.size,i.bytes))=some (some (Yu 0),1,8):=Zk
theorem sP:prog.cellsOf 52=1:=Zk
theorem lM:prog.plainKey 52=true:=Zk
theorem nI(x y x' y':Int)(W:World):(binOp .neq 54 (.agg #[Yu x,Yu y]) (.agg #[Yu x',Yu y'])).run prog W=.ok (.bool (!(x==x'&&y==y'))) W:=by
 obtain⟨i0,B,_,hs,_⟩:=XR CG;rw[run_neq_struct];have h:=run_equalIn_array W 9999 #[Yu x,Yu y] #[Yu x',Yu y'] underlying54 B;rw[sP,show List.range 2=[0,1] from rfl] at h;have D:(Op.equalIn 10000 54 (.agg #[Yu x,Yu y]) (.agg #[Yu x',Yu y'])).run prog W=_:=h;rw[D];have p0:∀(a b:Int) (V:World),(part 52 #[Yu a,Yu b] (0*1)).run prog V=.ok (Yu a) V:=fun a b V=>run_part_plain V lM rfl
 have p1:∀(a b:Int) (V:World),(part 52 #[Yu a,Yu b] (1*1)).run prog V=.ok (Yu b) V:=fun a b V=>run_part_plain V lM rfl
 have q:∀(a b:Int) (V:World),(Op.equalIn 9999 52 (Yu a) (Yu b)).run prog V=.ok (a==b) V:=fun a b V=>run_equalIn_int V 9998 _ _ _ a b underlying52
 simp only[Op.eqItems,Sem.run_bind,p0,q,Result.andThen_ok];have F:∀(a b:Int) (V:World),(part 52 #[Yu a,Yu b] 1).run prog V=.ok (Yu b) V:=p1;by_cases C:x=x' <;> by_cases E:y=y' <;> simp[C,E,F,q]
def dE(B:Nat)(W:World)(a:Qa)(ds:Qd):Prop:=
 ∀i (h:i<ds.length),∃b off,a=some ⟨b,off,none⟩/\b<B/\W.cell? ⟨b,off+i*2,none⟩=some (Yu ds[i].1)/\W.cell? ⟨b,off+i*2+1,none⟩=some (Yu ds[i].2)
theorem dE.below{B B':Nat}{W W':World}{a:Qa}{ds:Qd}(h:dE B W a ds)(C:Below B' W W')(H:B<=B'):dE B W' a ds:=by
 intro i G;obtain⟨b,I,D,A,E,F⟩:=h i G;exact⟨b,I,D,A,(C.cell (p:=⟨b,I+i*2,none⟩) Zt).trans E,(C.cell (p:=⟨b,I+i*2+1,none⟩) Zt).trans F⟩
theorem dE.mono{B B':Nat}{W:World}{a:Qa}{ds:Qd}(h:dE B W a ds)(F:B<=B'):dE B' W a ds:=by
 intro i D;obtain⟨b,G,A,E,C⟩:=h i D;exact⟨b,G,A,Zo,C⟩
theorem dE.nil(B:Nat)(W:World)(a:Qa):dE B W a []:=fun i h=>by simp at h
theorem qO{α:Type}{l m:List α}{k:Nat}(h:l.take k=m.take k)(B:k<l.length)(C:k<m.length)(A:l[k]=m[k]):l.take (k+1)=m.take (k+1):=by
 rw[ai B,ai C,h,A]
theorem aB{w:World}{base:Nat}{e:TypeId}{z:Nat}{v:Value}{n:Nat}{xs:List Value}(h:w.ownsRow base e z v n xs):∃a B,v=.slice a n B/\n<=B:=by
 rcases h.2 with⟨rfl,rfl⟩ | ⟨g,B,C,rfl,_,_,A,_⟩
 ·exact⟨_,_,rfl,nr⟩
 ·exact⟨_,_,rfl,A⟩
theorem dw(A:Qb)(i j:Nat):(A:ByteArray).extract i j=⟨((A.drop i).take (j-i)).toArray⟩:=QG (by rw[Lib.extract_data])
theorem DD(A:Qb)(i j:Nat)(h:i<=j)(B:j<=A.length)(W:World):(Instr.slice 9 (.string ⟨A.toArray⟩) (some (Yi i)) (some (Yi j)) none).run prog W=.ok (.string ⟨((A.drop i).take (j-i)).toArray⟩) W:=by
 rw[run_slice_string W 9 ⟨A.toArray⟩ .i64 .i64 i j underlying9 Zo Zo (Zy bH)];have:(A:ByteArray).extract ((i:Int)).toNat ((j:Int)).toNat=⟨((A.drop i).take (j-i)).toArray⟩:=QG (by
  rw[Lib.extract_data,aj,aj])
 rw[this]
theorem OJ(B:Qb)(n:Nat)(h:n<=B.length)(W:World):(Instr.slice 9 (.string ⟨B.toArray⟩) none (some (Yi n)) none).run prog W=.ok (.string ⟨(B.take n).toArray⟩) W:=by
 rw[run_slice_string_h (P:=prog) W (t:=9) ⟨B.toArray⟩ underlying9 .i64 n Zo (Zy bH)];have:(B:ByteArray).extract 0 ((n:Int)).toNat=⟨(B.take n).toArray⟩:=QG (by rw[Lib.extract_data,List.drop_zero,Nat.sub_zero,aj]);rw[this]
theorem jY(B:Qb)(n:Nat)(h:n<=B.length)(W:World):(Instr.slice 9 (.string ⟨B.toArray⟩) (some (Yi n)) none none).run prog W=.ok (.string ⟨(B.drop n).toArray⟩) W:=by
 rw[run_slice_string_l (P:=prog) W (t:=9) ⟨B.toArray⟩ underlying9 .i64 n Zo (Zy bH)];have:(B:ByteArray).extract ((n:Int)).toNat (B:ByteArray).size=⟨(B.drop n).toArray⟩:=QG (by rw[Lib.extract_to_end,aj]);rw[this]
def mI(x:Int)(c:UInt8):Int:=bits .or .u64 (IntKind.u64.wrap (x*256)) (IntKind.u64.wrap (c.toNat:Int))
def mJ(l:Qb):Int:=l.foldl mI 0
def BM(h:Int)(c:UInt8):Int:=IntKind.u64.wrap (bits .xor .u64 h (IntKind.u64.wrap (c.toNat:Int))*1099511628211)
def CY(h:Int)(c:UInt8):Int:=bits .xor .u64 (IntKind.u64.wrap (h*1099511628211)) (IntKind.u64.wrap (c.toNat:Int))
def iY(l:Qb):Int×Int:=
 if l.foldl BM 14695981039346656037=0/\l.foldl CY 14695981039346656037=0 then(0,1) else(l.foldl BM 14695981039346656037,l.foldl CY 14695981039346656037)
theorem gY{α β:Type}(f:β->α->β)(b:β)(l:List α)(k:Nat)(h:k<l.length):(l.take (k+1)).foldl f b=f ((l.take k).foldl f b) l[k]:=by
 rw[ai h,List.foldl_append]; rfl
theorem M3(h b:Int)(w:World):
  Qh 96 #[Yu h,Yu b] w fun e w'=>e=.returned (Yu (IntKind.u64.wrap (bits BinOp.xor IntKind.u64 h b*1099511628211)))/\w=w':=by
 go_enter func96,ntmps96;go_wp2;go_ret;exact⟨rfl,rfl⟩
theorem M0(h b:Int)(w:World):
  Qh 97 #[Yu h,Yu b] w fun e w'=>e=.returned (Yu (bits BinOp.xor IntKind.u64 (IntKind.u64.wrap (h*1099511628211)) b))/\w=w':=by
 go_enter func97,ntmps97;go_wp2;go_ret;exact⟨rfl,rfl⟩
theorem I5(L:Qb)(w:World)(hs:(L.length:Int)<=140737488355328):
  Qh 95 #[L,.func (.func 96) #[] #[]] w fun e w'=>e=.returned (Yu (L.foldl BM 14695981039346656037))/\w=w':=by
 have H:=Qf M3;obtain⟨g,C⟩:∃g:Qb->Int,g=fun l=>l.foldl BM 14695981039346656037:=⟨_,rfl⟩
 have I:Qg (∀k (h:k<L.length),g (L.take (k+1))=BM (g (L.take k)) L[k]):=Qf (fun k h=>C▸gY _ _ _ _ h);have D:Qg (g (L.take 0)=14695981039346656037):=Qf (Zw C);have B:Qg (L.foldl BM 14695981039346656037=g L):=Qf (Zx C);rw[B.o];clear C B;go_enter func95,ntmps95;go_wp2;go_loop [5,9] (fun n i=>∃(k:Nat) (x:Int),k<=L.length/\i=Yi k/\n=Yu x/\Qg (x=g (L.take k))) (fun _ i=>L.length-(intOf i).toNat)
 case atStart=>exact⟨0,_,Zo,rfl,rfl,Qf D.o.symm⟩
 case round=>
  obtain⟨k,x,J,rfl,rfl,G⟩:=hrel;by_cases F:k<L.length
  ·have E:Qg (g (L.take (k+1))=BM x L[k]):=Qf (G.out▸I.o k F);go_wp2_with fail;refine(H.o _ _ _).mono ?_;rintro e w' ⟨rfl,rfl⟩;go_wp2;go_round
   case rel=>exact⟨k+1,_,Zo,Zg,rfl,Qf (Zw E.o)⟩
   case measure=>exact Yq
  ·have E:Qg (x=g L):=Qf (by rw[G.out,ag Zo]);go_wp2;go_ret;exact⟨by rw[<-E.o]; rfl,rfl⟩
theorem I4(L:Qb)(w:World)(hs:(L.length:Int)<=140737488355328):
  Qh 95 #[L,.func (.func 97) #[] #[]] w fun e w'=>e=.returned (Yu (L.foldl CY 14695981039346656037))/\w=w':=by
 have H:=Qf M0;obtain⟨g,C⟩:∃g:Qb->Int,g=fun l=>l.foldl CY 14695981039346656037:=⟨_,rfl⟩
 have I:Qg (∀k (h:k<L.length),g (L.take (k+1))=CY (g (L.take k)) L[k]):=Qf (fun k h=>C▸gY _ _ _ _ h);have D:Qg (g (L.take 0)=14695981039346656037):=Qf (Zw C);have B:Qg (L.foldl CY 14695981039346656037=g L):=Qf (Zx C);rw[B.o];clear C B;go_enter func95,ntmps95;go_wp2;go_loop [5,9] (fun n i=>∃(k:Nat) (x:Int),k<=L.length/\i=Yi k/\n=Yu x/\Qg (x=g (L.take k))) (fun _ i=>L.length-(intOf i).toNat)
 case atStart=>exact⟨0,_,Zo,rfl,rfl,Qf D.o.symm⟩
 case round=>
  obtain⟨k,x,J,rfl,rfl,G⟩:=hrel;by_cases F:k<L.length
  ·have E:Qg (g (L.take (k+1))=CY x L[k]):=Qf (G.out▸I.o k F);go_wp2_with fail;refine(H.o _ _ _).mono ?_;rintro e w' ⟨rfl,rfl⟩;go_wp2;go_round
   case rel=>exact⟨k+1,_,Zo,Zg,rfl,Qf (Zw E.o)⟩
   case measure=>exact Yq
  ·have E:Qg (x=g L):=Qf (by rw[G.out,ag Zo]);go_wp2;go_ret;exact⟨by rw[<-E.o]; rfl,rfl⟩
theorem jD(x y x' y':Int)(W:World):(binOp .eql 54 (.agg #[Yu x,Yu y]) (.agg #[Yu x',Yu y'])).run prog W=.ok (.bool (x==x'&&y==y')) W:=by
 obtain⟨i0,B,_,hs,_⟩:=XR CG;rw[run_eql_struct];have h:=run_equalIn_array W 9999 #[Yu x,Yu y] #[Yu x',Yu y'] underlying54 B;rw[sP,show List.range 2=[0,1] from rfl] at h;have D:(Op.equalIn 10000 54 (.agg #[Yu x,Yu y]) (.agg #[Yu x',Yu y'])).run prog W=_:=h;rw[D];have p0:∀(a b:Int) (V:World),(Go.part 52 #[Yu a,Yu b] (0*1)).run prog V=.ok (Yu a) V:=fun a b V=>run_part_plain V lM rfl
 have p1:∀(a b:Int) (V:World),(Go.part 52 #[Yu a,Yu b] (1*1)).run prog V=.ok (Yu b) V:=fun a b V=>run_part_plain V lM rfl
 have q:∀(a b:Int) (V:World),(Op.equalIn 9999 52 (Yu a) (Yu b)).run prog V=.ok (a==b) V:=fun a b V=>run_equalIn_int V 9998 _ _ _ a b underlying52
 simp only[Op.eqItems,Sem.run_bind,p0,q,Result.andThen_ok];have F:∀(a b:Int) (V:World),(Go.part 52 #[Yu a,Yu b] 1).run prog V=.ok (Yu b) V:=p1;by_cases C:x=x' <;> by_cases E:y=y' <;> simp[C,E,F,q]
theorem qV(L:Qb)(w:World)(hs:(L.length:Int)<=140737488355328):
  Qh 50 #[L] w (Xz (.agg #[Yu (iY L).1,Yu (iY L).2]) w):=by
 obtain⟨D,E⟩:=Yj (fun w=>I5 L w hs) (fun w=>I4 L w hs);have B:Qg (iY L=if L.foldl BM 14695981039346656037=0/\L.foldl CY 14695981039346656037=0 then(0,1) else(L.foldl BM 14695981039346656037,L.foldl CY 14695981039346656037)):=Qf rfl;obtain⟨R,H⟩:=Qe (iY L);rw[<-H] at B ⊢;clear H;generalize L.foldl BM 14695981039346656037=x at D B;generalize L.foldl CY 14695981039346656037=y at E B;by_cases C:x=0/\y=0
 ·obtain⟨rfl,rfl⟩:=C;have F:Qg (R=(0,1)):=Qf (Zw B.o);have G:=fun W=>jD 0 0 0 0 W
  simp only[beq_self_eq_true,Bool.and_self] at G;go_enter func50,ntmps50;go_wp2_with fail;refine(D.o _).mono ?_;rintro e w1 ⟨rfl,rfl⟩;go_wp2_with fail;refine(E.o _).mono ?_;rintro e w1 ⟨rfl,rfl⟩;go_wp2;refine XB (v:=.agg #[Yu 0,Yu 1]) (by simp[results,results50,go_sem]) rfl ⟨Zx F.o,?_⟩;exact(ba w _).alloc Zs _
 ·have F:Qg (R=(x,y)):=Qf (by rw[B.o,if_neg C]);have G:=fun W=>jD x y 0 0 W
  have I:(x==0&&y==0)=false:=by
   by_cases J:x=0 <;> by_cases K:y=0 <;> simp[J,K] at C ⊢
  rw[I] at G;clear C I;go_enter func50,ntmps50;go_wp2_with fail;refine(D.o _).mono ?_;rintro e w1 ⟨rfl,rfl⟩;go_wp2_with fail;refine(E.o _).mono ?_;rintro e w1 ⟨rfl,rfl⟩;go_wp2;refine XB (v:=.agg #[Yu x,Yu y]) (by simp[results,results50,go_sem]) rfl ⟨Zx F.o,?_⟩;exact(ba w _).alloc Zs _
def aW(ds:Qd):List Value:=ds.flatMap fun d=>[Yu d.1,Yu d.2]
theorem gK(a b:Qd):aW (a++b)=aW a++aW b:=by simp[aW]
theorem lu:∀(ds:Qd) (i:Nat) (h:i<ds.length),(aW ds)[i*2]? = some (Yu ds[i].1)/\(aW ds)[i*2+1]? = some (Yu ds[i].2)
 | [],i,h=>by simp at h
 | d::ds,0,h=>by simp[aW]
 | d::ds,i+1,h=>by
  have A:i<ds.length:=Zu h;have e:aW (d::ds)=[Yu d.1,Yu d.2]++aW ds:=by simp[aW]
  have g:∀j,(aW (d::ds))[(i+1)*2+j]? = (aW ds)[i*2+j]?:=fun j=>by
   rw[e,YE Zt];congr 1;simp;omega
  have:=lu ds i A;simp only[bK];exact⟨(g 0).trans this.1,(g 1).trans this.2⟩
theorem iy{w:World}{base:Nat}{a:Qa}{cap:Nat}{ds:Qd}(h:w.ownsRow base 54 2 (.slice a ds.length cap) ds.length (aW ds)):dE w w a ds:=by
 intro i C;rcases h.2 with⟨A,D⟩ | ⟨g,E,F,A,_,B,_⟩
 ·omega
 ·cases A
  obtain⟨c0,c1⟩:=lu ds i C;refine⟨g,0,rfl,(XA.1 B).1,?_,?_⟩
  ·have:=h.cells (g:=g) rfl _ _ c0; rwa[XD] at this
  ·have:=h.cells (g:=g) rfl _ _ c1; rwa[XD,<-aP] at this
theorem ul:(prog.info? 54).map (fun i=>(i.zero,i.size,i.bytes))=some (some (.agg #[Yu 0,Yu 0]),2,16):=Zk
theorem Mt{u w':World}{row:Option Nat}(C:u.grownBy w' row){b:Nat}(B:b<(u:Nat))(D:row≠some b)(j:Nat):w'.cell? ⟨b,j,none⟩=u.cell? ⟨b,j,none⟩/\w'.frozen? ⟨b,j,none⟩=u.frozen? ⟨b,j,none⟩:=by
 have A:=C.block b B (fun h=>D h.symm);exact⟨XM (a:=⟨b,j,none⟩) A,World.frozen?_of_block (a:=⟨b,j,none⟩) A⟩
theorem dN(x:World)(b j:Nat)(v:Value):x.grownBy (x.setCell ⟨b,j,none⟩ v) (some b):=⟨rfl,rfl,rfl,Zs,fun k _ A=>Below.heap_setCell _ _ _ k (fun e=>A (by rw[e]))⟩
theorem bu{x y z:World}{r:Option Nat}(A:x.grownBy y r)(B:y.grownBy z r):x.grownBy z r:=
 ⟨B.os.trans A.os,B.tape.trans A.tape,B.output.trans A.output,aC A.size B.size,fun k C D=>(B.block k (aO C A.size) D).trans (A.block k C D)⟩
theorem wrap_u64(n:Int):IntKind.u64.wrap n=n%18446744073709551616:=by
 simp[IntKind.wrap,IntKind.bits,IntKind.signed]
theorem Eo(x:Int)(c:UInt8):mI x c=(x*256)%18446744073709551616+c.toNat:=by
 have D:=c.toNat_lt;have A:(c.toNat:Int)%18446744073709551616=c.toNat:=Zo;unfold mI bits;simp only[wrap_u64,A];obtain⟨q,C⟩:∃q:Nat,(x*256)%18446744073709551616=((q*256:Nat):Int):=⟨((x*256)%18446744073709551616/256).toNat,Zo⟩;have B:q*256<18446744073709551616:=Zo;rw[C];have e1:(BitVec.ofInt IntKind.u64.bits ((q*256:Nat):Int)).toNat=q*256:=by
  simp only[IntKind.bits,BitVec.ofInt_natCast,BitVec.toNat_ofNat];exact Nat.mod_eq_of_lt B
 have e2:(BitVec.ofInt IntKind.u64.bits ((c.toNat:Nat):Int)).toNat=c.toNat:=by
  simp only[IntKind.bits,BitVec.ofInt_natCast,BitVec.toNat_ofNat];exact Nat.mod_eq_of_lt Zo
 rw[BitVec.toNat_or,e1,e2];have e3:q*256 ||| c.toNat=q*256+c.toNat:=by
  have:=Nat.shiftLeft_add_eq_or_of_lt (i:=8) (b:=c.toNat) Zo q;rw[Nat.shiftLeft_eq] at this;exact this.symm
 rw[e3];omega
def Gf(l:Qb):Nat:=l.foldl (fun n c=>n*256+c.toNat) 0
theorem Pb(l:Qb):∀(n:Nat),(n+1)*256^l.length<=18446744073709551616->l.foldl mI (n:Int)=((l.foldl (fun n c=>n*256+c.toNat) n:Nat):Int):=by
 induction l with
 | nil=>intro n _; rfl
 | cons c l ih=>
  intro n h;have D:=c.toNat_lt;rw[az,sS] at h;have B:1<=256^l.length:=Nat.one_le_pow _ _ Zo;have A:(n*256+c.toNat+1)*256^l.length<=18446744073709551616:=by
   refine aC (pK _ (show n*256+c.toNat+1<=(n+1)*256 by omega)) ?_;rw[Nat.mul_assoc,Nat.mul_comm 256]; exact h
  have C:n*256+c.toNat+1<=18446744073709551616:=aC (Nat.le_mul_of_pos_right _ B) A;simp only[fE];rw[<-ih _ A,Eo];congr 1;rw[Int.emod_eq_of_lt Zo Zo];simp
theorem Es(l:Qb)(h:l.length<=8):mJ l=(Gf l:Int):=by
 refine Pb l 0 ?_;rw[aZ,Nat.one_mul];exact aC (Nat.pow_le_pow_right Zo h) Zd
theorem NB(l:Qb):∀n:Nat,l.foldl (fun n c=>n*256+c.toNat) n<(n+1)*256^l.length:=by
 induction l with
 | nil=>intro n; simp
 | cons c l ih=>
  intro n;have A:=c.toNat_lt;rw[fE,az,sS];refine aO (ih _) ?_;rw[Nat.mul_comm (256^l.length),<-Nat.mul_assoc];exact pK _ Zo
theorem CQ(l:Qb):Gf l<256^l.length:=by
 have:=NB l 0
 rwa[aZ,Nat.one_mul] at this
theorem dE.kept{w w':World}{a:Qa}{ds:Qd}{row:Option Nat}(h:dE w w a ds)(B:w.grownBy w' row)(C:0<ds.length->∀ad,a=some ad->row≠some ad.block):dE w' w' a ds:=by
 intro i G;obtain⟨b,H,rfl,A,E,F⟩:=h i G;have D:row≠some b:=C Zo _ rfl;exact⟨b,H,rfl,aO A B.size,(B.cell_far ⟨b,H+i*2,none⟩ A (fun e=>D e.symm)).trans E,(B.cell_far ⟨b,H+i*2+1,none⟩ A (fun e=>D e.symm)).trans F⟩
theorem OI(A:Qb)(i j:Int)(B:0<=i)(h:i<=j)(C:j<=A.length)(W:World):(Instr.slice 9 (.string ⟨A.toArray⟩) (some (Yi i)) (some (Yi j)) none).run prog W=.ok (.string ⟨((A.drop i.toNat).take (j.toNat-i.toNat)).toArray⟩) W:=by
 have:=DD A i.toNat j.toNat Zo Zo W
 rwa[Int.toNat_of_nonneg B,Int.toNat_of_nonneg Zo] at this
theorem wrap_i64{n:Int}(A:0<=n)(B:n<=9223372036854775807):IntKind.i64.wrap n=n:=by
 simp only[IntKind.wrap,IntKind.bits,IntKind.signed];simp;omega
theorem ZV{n : Int}(A : 0<=n:=by omega)(B : n<=9223372036854775807:=by omega): IntKind.i64.wrap n=n:=wrap_i64 A B
def be:Nat->Int->Qb
 | 0,_=>[]
 | k+1,n=>UInt8.ofNat ((n/2^(8*k))%256).toNat::be k n
theorem bY:∀(k:Nat) (n:Int),(be k n).length=k
 | 0,_=>rfl
 | k+1,n=>by rw[be,az,bY]
theorem OG{a:Qb}{n:Nat}(h:a.length=n)(b:Qb):(a++b).take n=a:=by subst h; rw[List.take_left]
theorem Pj{a:Qb}{n:Nat}(h:a.length=n)(b:Qb):(a++b).drop n=b:=by subst h; rw[qL]
theorem pow8(k:Nat):2^(8*k)=256^k:=by rw[Nat.pow_mul]
theorem Bt(l:Qb)(s:ByteArray):(l:ByteArray)++s=⟨(l++s.data.toList).toArray⟩:=by
 apply QG; simp[ByteArray.data_append]
theorem jF(s:ByteArray):s.data.toList.length=s.size:=Array.length_toList
theorem xu(n:Nat):Cw.enc n≠[]:=by
 unfold Cw.enc; rw[Cw.encF]; split <;> simp
theorem aG(n:Nat):(Cw.enc n).length<=10:=nN 10 n
theorem Ay(w:World):Lib.IsBuilderF 118 5 (w:Nat) (w:Nat) [] (w.alloc (.cells #[.pointer none,()] 118)):=
 Lib.IsBuilderF.of (Lib.fresh_isBuilder _ _ _)
theorem byteCells_append(a b:Qb):Lib.byteCells (a++b)=Lib.byteCells a++Lib.byteCells b:=by simp[Lib.byteCells]
theorem PY(s:ByteArray):Lib.strCells s=Lib.byteCells s.data.toList:=by
 simp[Lib.strCells,Lib.byteCells]
theorem FI(n:Int)(w:World):
  Qh 127 #[Yi n] w fun e w'=>e=T2s (GM n).1 (GM n).2/\PM w w':=by
 by_cases h:Cw.inR n=true
 ·have E:GM n=(Cw.enc n.toNat,0):=if_pos h;obtain⟨H,I⟩:=(Cw.inR_iff n).1 h;rw[E];have F:Qg (∀w:World,Qh 178 #[Yi n] w fun e w'=>e=.returned (.bool true)/\w=w'):=
   Qf (fun w=>by have:=kC n w; rwa[h] at this)
  clear h E;go_enter func127,ntmps127;go_wp2_with (go_at_call 178; refine(F.o _).mono ?_; rintro e w' ⟨rfl,rfl⟩);refine(wh (w:Nat) (w:Nat) [] n _ (Ay w) H Zo Zs Zs).mono ?_;rintro e w1 ⟨rfl,D,B,_⟩;rw[aY] at D;go_wp2_with fail;refine(ic (w:Nat) (w:Nat) (Cw.enc n.toNat) w1 D (xu _)).mono ?_;rintro e w2 ⟨rfl,_,C,_⟩;go_wp2;go_ret2;exact⟨rfl,((ba w _).trans B).trans C⟩
 ·have G:Cw.inR n=false:=Zu h;have E:GM n=([],2):=if_neg h;have F:Qg (∀w:World,Qh 178 #[Yi n] w fun e w'=>e=.returned (.bool false)/\w=w'):=
   Qf (fun w=>by have:=kC n w; rwa[G] at this)
  rw[E];clear h G E;go_enter func127,ntmps127;go_wp2_with (go_at_call 178; refine(F.o _).mono ?_; rintro e w' ⟨rfl,rfl⟩);go_ret2;exact⟨rfl,bf _⟩
def putT(l:Qb):Qb×Int:=if l.length<=65536 then(Cw.enc l.length++l,0) else([],4)
theorem nG(s:ByteArray)(w:World)(hs:(s.size:Int)<=9223372036854775807):
  Qh 128 #[.string s] w fun e w'=>e=T2s (putT s.data.toList).1 (putT s.data.toList).2/\PM w w':=by
 by_cases h:(s.size:Int)<=65536
 ·have G:putT s.data.toList=(Cw.enc s.size++s.data.toList,0):=by
   unfold putT; rw[jF,if_pos Zo]
  rw[G];clear G;have H:=aG s.size;go_enter func128,ntmps128;go_wp2_with fail;refine(wh (w:Nat) (w:Nat) [] s.size _ (Ay w) Zo Zo Zs Zs).mono ?_;rintro e w1 ⟨rfl,E,B,_⟩;rw[aY,aj] at E;go_wp2_with fail;refine(jW (w:Nat) (w:Nat) _ s w1 E (Zy Lib.byteCells_length) (by have:=B.size; simp at this; omega)).mono ?_;rintro e w2 ⟨rfl,F,C,_⟩;rw[PY,<-byteCells_append] at F;go_wp2_with fail;refine(ic (w:Nat) (w:Nat) (Cw.enc s.size++s.data.toList) w2 (.inr F) (by simp[xu])).mono ?_;rintro e w3 ⟨rfl,_,D,_⟩;go_wp2;go_ret2;exact⟨rfl,(((ba w _).trans B).trans C).trans D⟩
 ·have G:putT s.data.toList=([],4):=by
   unfold putT; rw[jF,if_neg Zo]
  rw[G];clear G;go_enter func128,ntmps128;go_wp2;go_ret2;exact⟨rfl,bf _⟩
theorem vL(s:ByteArray)(w:World)(hs:(s.size:Int)<=9223372036854775807):
  Qh 89 #[.string s] w fun e w'=>e=T2s (putT s.data.toList).1 (putT s.data.toList).2/\PM w w':=by
 by_cases h:(s.size:Int)<=65536
 ·have C:putT s.data.toList=(Cw.enc s.size++s.data.toList,0):=by
   unfold putT; rw[jF,if_pos Zo]
  rw[C];clear C;have E:=aG s.size;have D:∀W,(Op.stringOp .add ⟨(Cw.enc s.size).toArray⟩ s).run prog W=.ok (.string ⟨(Cw.enc s.size++s.data.toList).toArray⟩) W:=by
   intro W;rw[run_string_add_sum W _ _ (Zy bH),Bt]
  go_enter func89,ntmps89;go_wp2_with fail;refine(zG s.size _ Zo Zo).mono ?_;rw[aj];rintro e w1 ⟨rfl,B⟩;go_wp2;go_ret2;exact⟨rfl,B⟩
 ·have C:putT s.data.toList=([],4):=by
   unfold putT; rw[jF,if_neg Zo]
  rw[C];clear C;go_enter func89,ntmps89;go_wp2;go_ret2;exact⟨rfl,bf _⟩
theorem qW:∀(f i:Nat) (n u:Int) (l:Qb),0<=n->0<=u->(Cw.getGo f i n u l).2.2=0->
  0<=(Cw.getGo f i n u l).1/\(Cw.getGo f i n u l).1<=1099511627776/\(i:Int)+1<=(Cw.getGo f i n u l).2.1/\(Cw.getGo f i n u l).2.1<=i+l.length/\(Cw.getGo f i n u l).2.1<=i+f
 | 0,_,_,_,_,_,_,h=>by simp[Cw.getGo] at h
 | _+1,_,_,_,[],_,_,h=>by simp[Cw.getGo] at h
 | f+1,i,n,u,c::r,E,C,h=>by
  rw[Cw.getGo] at h ⊢;by_cases B:128<=c.toNat
  ·rw[if_pos B] at h ⊢;have A:0<=n+((c.toNat:Int)-128)*u:=by have:=Int.mul_nonneg (show 0<=(c.toNat:Int)-128 by omega) C; omega
   have:=qW f (i+1) _ _ r A Zo h;simp only[az]; omega
  ·rw[if_neg B] at h ⊢;by_cases D:(c.toNat=0/\0<i)\/1099511627776<n+(c.toNat:Int)*u
   ·rw[if_pos D] at h; simp at h
   ·rw[if_neg D];have A:0<=(c.toNat:Int)*u:=Int.mul_nonneg Zo C;simp only[az];refine⟨Zo,Zo,Zo,Zo,Zo⟩
theorem bM{l:Qb}{n k:Int}(h:Cw.getI l=(n,k,0)):0<=n/\n<=1099511627776/\1<=k/\k<=l.length/\k<=6:=by
 have:=qW 6 0 0 1 l Zo Zo (by show(Cw.getI l).2.2=0; rw[h]);have e:Cw.getGo 6 0 0 1 l=(n,k,0):=h;rw[e] at this;simp at this; omega
theorem Aq:∀(f i:Nat) (n u:Int) (l:Qb),(Cw.getGo f i n u l).2.2≠0->Cw.getGo f i n u l=(0,0,12)\/Cw.getGo f i n u l=(0,0,13)
 | 0,_,_,_,_,_=>.inr rfl
 | _+1,_,_,_,[],_=>.inl rfl
 | f+1,i,n,u,c::r,h=>by
  rw[Cw.getGo] at h ⊢;by_cases A:128<=c.toNat
  ·rw[if_pos A] at h ⊢;exact Aq f _ _ _ r h
  ·rw[if_neg A] at h ⊢;by_cases B:(c.toNat=0/\0<i)\/1099511627776<n+(c.toNat:Int)*u
   ·rw[if_pos B]; exact .inr rfl
   ·rw[if_neg B] at h; exact absurd rfl h
theorem dQ{s:ByteArray}{n k er:Int}(h:Cw.getI s.data.toList=(n,k,er))(w:World):
  Qh 125 #[.string s] w fun e w'=>e=.returned (.tuple #[Yi n,Yi k,Yi er])/\w=w':=by
 have:=Gb s w; rw[h] at this; exact this
theorem qQ{s:ByteArray}{n k er:Int}(h:Cw.getI s.data.toList=(n,k,er))(w:World):
  Qh 153 #[.string s] w fun e w'=>e=.returned (.tuple #[Yi n,Yi k,Yi er])/\w=w':=by
 have:=xN s w; rw[h] at this; exact this
def T3s(x:Qb×Int×Int):Ending:=.returned (.tuple #[.string ⟨x.1.toArray⟩,Yi x.2.1,Yi x.2.2])
theorem jM(l:Qb):∃n k er,Cw.getI l=(n,k,er)/\
  ((er≠0/\Cw.getT l=([],0,er))\/
   (er=0/\65536<n/\Cw.getT l=([],0,13))\/
   (er=0/\n<=65536/\(l.length:Int)-k<n/\Cw.getT l=([],0,12))\/
   (er=0/\n<=65536/\n<=(l.length:Int)-k/\Cw.getT l=((l.drop k.toNat).take n.toNat,k+n,0))):=by
 obtain⟨n,k,er,h⟩:∃n k er,Cw.getI l=(n,k,er):=⟨_,_,_,rfl⟩;refine⟨n,k,er,h,?_⟩;unfold Cw.getT;rw[h];by_cases A:er=0
 ·right;rw[if_neg (Zu A)];by_cases C:65536<n
  ·left; exact⟨A,C,if_pos C⟩
  ·right;rw[if_neg C];by_cases B:(l.length:Int)-k<n
   ·left; exact⟨A,Zo,B,if_pos B⟩
   ·right; exact⟨A,Zo,Zo,if_neg B⟩
 ·left; exact⟨A,if_pos A⟩
theorem kD(s:ByteArray)(w:World)(hs:(s.size:Int)<=140737488355328):
  Qh 126 #[.string s] w fun e w'=>e=T3s (Cw.getT s.data.toList)/\w=w':=by
 obtain⟨n,k,er,h,E⟩:=jM s.data.toList;have C:=Qf (dQ h);rw[jF] at E;rcases E with⟨I,B⟩ | ⟨rfl,F,B⟩ | ⟨rfl,F,K,B⟩ | ⟨rfl,F,K,B⟩
 ·rw[B];clear h B;have J:(er !=0)=true:=Zu I;go_enter func126,ntmps126;go_wp2_with (go_at_call 125; refine(C.o _).mono ?_; rintro e w' ⟨rfl,rfl⟩);go_ret3;exact⟨rfl,rfl⟩
 ·rw[B];clear h B;go_enter func126,ntmps126;go_wp2_with (go_at_call 125; refine(C.o _).mono ?_; rintro e w' ⟨rfl,rfl⟩);go_ret3;exact⟨rfl,rfl⟩
 ·have D:=bM h;rw[jF] at D;rw[B];clear h B;go_enter func126,ntmps126;go_wp2_with (go_at_call 125; refine(C.o _).mono ?_; rintro e w' ⟨rfl,rfl⟩);go_ret3;exact⟨rfl,rfl⟩
 ·have D:=bM h;rw[jF] at D;obtain⟨t,G,L⟩:∃t:ByteArray,t=⟨((s.data.toList.drop k.toNat).take n.toNat).toArray⟩/\∀W,(Instr.slice 9 (.string s) (some (Yi k)) (some (Yi (k+n))) none).run prog W=.ok (.string t) W:=by
   refine⟨s.extract k.toNat (k+n).toNat,QG ?_,fun W=>run_slice_string W 9 s .i64 .i64 k (k+n) underlying9 Zo Zo Zo⟩;rw[Lib.extract_data,show(k+n).toNat-k.toNat=n.toNat from Zo]
  have H:Qg (Ending.returned (.tuple #[.string t,Yi (k+n),Yi 0])=T3s (Cw.getT s.data.toList)):=Qf (by rw[B,G]; rfl);clear h B G;go_enter func126,ntmps126;go_wp2_with (go_at_call 125; refine(C.o _).mono ?_; rintro e w' ⟨rfl,rfl⟩);go_ret3;exact⟨H.o,rfl⟩
theorem vN(s:ByteArray)(w:World)(hs:(s.size:Int)<=140737488355328):
  Qh 154 #[.string s] w fun e w'=>e=T3s (Cw.getT s.data.toList)/\w=w':=by
 obtain⟨n,k,er,h,E⟩:=jM s.data.toList;have C:=Qf (qQ h);rw[jF] at E;rcases E with⟨I,B⟩ | ⟨rfl,F,B⟩ | ⟨rfl,F,K,B⟩ | ⟨rfl,F,K,B⟩
 ·rw[B];clear h B;have J:(er !=0)=true:=Zu I;go_enter func154,ntmps154;go_wp2_with (go_at_call 153; refine(C.o _).mono ?_; rintro e w' ⟨rfl,rfl⟩);go_ret3;exact⟨rfl,rfl⟩
 ·rw[B];clear h B;go_enter func154,ntmps154;go_wp2_with (go_at_call 153; refine(C.o _).mono ?_; rintro e w' ⟨rfl,rfl⟩);go_ret3;exact⟨rfl,rfl⟩
 ·have D:=bM h;rw[jF] at D;rw[B];clear h B;go_enter func154,ntmps154;go_wp2_with (go_at_call 153; refine(C.o _).mono ?_; rintro e w' ⟨rfl,rfl⟩);go_ret3;exact⟨rfl,rfl⟩
 ·have D:=bM h;rw[jF] at D;obtain⟨t,G,L⟩:∃t:ByteArray,t=⟨((s.data.toList.drop k.toNat).take n.toNat).toArray⟩/\∀W,(Instr.slice 9 (.string s) (some (Yi k)) (some (Yi (k+n))) none).run prog W=.ok (.string t) W:=by
   refine⟨s.extract k.toNat (k+n).toNat,QG ?_,fun W=>run_slice_string W 9 s .i64 .i64 k (k+n) underlying9 Zo Zo Zo⟩;rw[Lib.extract_data,show(k+n).toNat-k.toNat=n.toNat from Zo]
  have H:Qg (Ending.returned (.tuple #[.string t,Yi (k+n),Yi 0])=T3s (Cw.getT s.data.toList)):=Qf (by rw[B,G]; rfl);clear h B G;go_enter func154,ntmps154;go_wp2_with (go_at_call 153; refine(C.o _).mono ?_; rintro e w' ⟨rfl,rfl⟩);go_ret3;exact⟨H.o,rfl⟩
end Go.Proofs.YtkedhdcnakhbgaaGreat
namespace Go.Proofs.YtkedhdcnakhbgaaGreat.Cw
open Tryz
theorem toNat_ofNat(n:Nat)(h:n<256):(UInt8.ofNat n).toNat=n:=Zt
theorem yH{f n:Nat}(h:n<128):encF (f+1) n=[UInt8.ofNat n]:=if_pos h
theorem yI{f n:Nat}(h:128<=n):encF (f+1) n=UInt8.ofNat (n%128+128)::encF f (n/128):=if_neg Zo
theorem Ar:∀(g f i m:Nat) (a u:Int) (L:Qb),m<128^g->m<128^f->1<=g->1<=f->(i=0\/1<=m)->0<=u->a+m*u<=1099511627776->
  getGo f i a u (encF g m++L)=(a+m*u,(i:Int)+(encF g m).length,0)
 | 0,_,_,_,_,_,_,_,_,h,_,_,_,_=>Zo
 | _+1,0,_,_,_,_,_,_,_,_,h,_,_,_=>Zo
 | g+1,f+1,i,m,a,u,L,E,C,_,_,J,K,I=>by
  by_cases h:m<128
  ·rw[yH h,bz,aY,getGo,toNat_ofNat m Zo,if_neg Zo,if_neg]
   ·simp
   ·rintro(⟨G,B⟩ | B) <;> omega
  ·have H:128<=m:=Zo;rw[yI H,bz,getGo,toNat_ofNat _ Zo,if_pos Zo];have e:a+((m%128+128:Nat)-128:Int)*u+((m/128:Nat):Int)*(u*128)=a+m*u:=by
    have G:((m%128+128:Nat)-128:Int)=((m%128:Nat):Int):=Zo;have B:((m:Nat):Int)=((m%128:Nat):Int)+128*((m/128:Nat):Int):=Zo;rw[G]
    conv=>rhs; rw[B]
    rw[Int.add_mul,Int.mul_comm u 128,<-Int.mul_assoc,Int.mul_comm (m/128:Nat) 128];omega
   have F:1<=g:=by
    rcases Nat.eq_zero_or_pos g with A | A
    ·subst A; simp at E; omega
    ·exact A
   have D:1<=f:=by
    rcases Nat.eq_zero_or_pos f with A | A
    ·subst A; simp at C; omega
    ·exact A
   rw[Ar g f (i+1) (m/128) _ (u*128) L (by rw[sS] at E; exact Nat.div_lt_of_lt_mul (by rw[Nat.mul_comm]; exact E)) (by rw[sS] at C; exact Nat.div_lt_of_lt_mul (by rw[Nat.mul_comm]; exact C)) F D (.inr Zo) Zo (e▸I),e];simp only[az];congr 2; omega
theorem getI_enc(n:Nat)(h:n<=1099511627776)(rest:Qb):getI (enc n++rest)=((n:Int),((enc n).length:Int),0):=by
 have:=Ar 10 6 0 n 0 1 rest (by(have:(128:Nat)^10=1180591620717411303424:=Zd); omega) (by(have:(128:Nat)^6=4398046511104:=Zd); omega) Zo Zo (.inl rfl) Zo Zo;unfold getI enc;rw[this]; simp
theorem AY:∀(f g n:Nat),n<128^f->1<=f->f<=g->encF g n=encF f n
 | 0,_,_,_,h,_=>Zo
 | _+1,0,_,_,_,h=>Zo
 | f+1,g+1,n,B,_,D=>by
  by_cases h:n<128
  ·rw[yH h,yH h]
  ·have C:1<=f:=by
    rcases Nat.eq_zero_or_pos f with A | A
    ·subst A; simp at B; omega
    ·exact A
   rw[yI Zo,yI Zo,AY f g (n/128) (by rw[sS] at B; exact Nat.div_lt_of_lt_mul (by rw[Nat.mul_comm]; exact B)) C Zo]
theorem tZ(c:UInt8):UInt8.ofNat c.toNat=c:=Zs
theorem uE:∀(f i:Nat) (a u x k:Int) (l:Qb),getGo f i a u l=(x,k,0)->
  ∃m:Nat,x=a+m*u/\(0<i->1<=m)/\m<128^f/\1<=f/\k=(i:Int)+(encF f m).length/\l.take (encF f m).length=encF f m
 | 0,_,_,_,_,_,_,h=>by simp[getGo] at h
 | _+1,_,_,_,_,_,[],h=>by simp[getGo] at h
 | f+1,i,a,u,x,k,c::r,h=>by
  rw[getGo] at h;by_cases F:128<=c.toNat
  ·rw[if_pos F] at h;obtain⟨m,D,G,O,N,L,M⟩:=uE f (i+1) _ _ x k r h;have H:=G Zo;have J:=c.toNat_lt;have C:(c.toNat-128+128*m)%128=c.toNat-128:=Zo;have A:(c.toNat-128+128*m)/128=m:=Zo;have B:encF (f+1) (c.toNat-128+128*m)=c::encF f m:=by
    rw[yI Zo,C,A,show c.toNat-128+128=c.toNat from Zo,tZ]
   refine⟨c.toNat-128+128*m,?_,fun _=>Zo,?_,Zo,?_,?_⟩
   ·rw[D];have I:((c.toNat-128+128*m:Nat):Int)=((c.toNat:Int)-128)+128*(m:Int):=Zo;rw[I,Int.add_mul,Int.mul_comm u 128,<-Int.mul_assoc,Int.mul_comm (m:Int) 128]; omega
   ·rw[sS]; omega
   ·rw[B,L,az]; omega
   ·rw[B,az,jS,M]
  ·rw[if_neg F] at h;by_cases D:(c.toNat=0/\0<i)\/1099511627776<a+(c.toNat:Int)*u
   ·rw[if_pos D] at h; simp at h
   ·rw[if_neg D] at h;have B:encF (f+1) c.toNat=[c]:=by rw[yH Zo,tZ]
    simp only[XC,and_true] at h;refine⟨c.toNat,h.1.symm,fun K=>?_,?_,Zo,?_,?_⟩
    ·rcases Nat.eq_zero_or_pos c.toNat with E | E
     ·exact absurd (.inl ⟨E,K⟩) D
     ·exact E
    ·rw[sS];have:1<=128^f:=Nat.one_le_pow _ _ Zo;omega
    ·rw[B]; simp; omega
    ·rw[B]; simp
theorem getI_canon{l:Qb}{n k:Int}(h:getI l=(n,k,0)):0<=n/\k=((enc n.toNat).length:Int)/\l.take (enc n.toNat).length=enc n.toNat:=by
 obtain⟨m,G,_,C,E,F,B⟩:=uE 6 0 0 1 n k l h;have D:n=(m:Int):=Zo;subst D;have A:enc ((m:Int)).toNat=encF 6 m:=by unfold enc; rw[aj]; exact AY 6 10 m C Zo Zo
 rw[A];exact⟨Zo,Zo,B⟩
end Go.Proofs.YtkedhdcnakhbgaaGreat.Cw
namespace Go.Proofs.YtkedhdcnakhbgaaGreat
open Tryz
theorem lY{l x:Qb}{k:Int}(h:Cw.getT l=(x,k,0)):1<=k/\k<=l.length/\x.length<=65536/\l.take k.toNat=Cw.enc x.length++x:=by
 obtain⟨n,k',N,E,G⟩:=jM l;rcases G with⟨B,A⟩ | ⟨_,_,A⟩ | ⟨_,_,_,A⟩ | ⟨B,M,L,A⟩
 ·rw[h] at A; simp only[XC] at A; exact absurd A.2.2.symm B
 ·rw[h] at A; simp at A
 ·rw[h] at A; simp at A
 ·subst B;have K:=bM E;obtain⟨I,H,J⟩:=Cw.getI_canon E;rw[h] at A;simp only[XC,and_true] at A;obtain⟨F,C⟩:=A;have D:x.length=n.toNat:=by rw[F,aA,ah]; omega
  refine⟨Zo,Zo,Zo,?_⟩;rw[C,show(k'+n).toNat=k'.toNat+n.toNat from Zo,List.take_add,<-F,D];congr 1;rw[H,aj]; exact J
theorem yx{x:Qb}(h:x.length<=65536)(rest:Qb):Cw.getT ((Cw.enc x.length++x)++rest)=(x,((Cw.enc x.length++x).length:Int),0):=by
 have A:=Cw.getI_enc x.length Zo (x++rest);unfold Cw.getT;rw[ay,A];rw[if_neg Zs,if_neg Zt,if_neg Zt];simp only[aj];rw[qL,List.take_left]; simp
theorem JS(k n:Nat):(((n:Int)/2^(8*k))%256).toNat=n/256^k%256:=by
 have:((2:Int)^(8*k))=((256^k:Nat):Int):=by rw[<-pow8]; simp
 rw[this];omega
theorem Je:∀(k a n:Nat),(be k (n:Int)).foldl (fun n c=>n*256+c.toNat) a=a*256^k+n%256^k
 | 0,a,n=>by simp[be,Nat.mod_one]
 | k+1,a,n=>by
  rw[be,fE,Je k,JS,Cw.toNat_ofNat _ (Nat.mod_lt _ Zd)];rw[sS,Nat.mod_mul,rM,Nat.mul_assoc,Nat.mul_comm 256,Nat.mul_comm (n/256^k%256)];omega
theorem NC(k n:Nat)(h:n<256^k):Gf (be k n)=n:=by
 unfold Gf;rw[Je,dG,aZ,Nat.mod_eq_of_lt h]
theorem Jg(d:Int)(A:0<=d)(B:d<18446744073709551616):mJ (be 8 d)=d:=by
 obtain⟨n,rfl⟩:∃n:Nat,d=(n:Int):=⟨d.toNat,Zo⟩;rw[Es _ (by rw[bY]; exact nr),NC 8 n Zo]
theorem qy:∀(X:Qb) (b:Nat),X.foldl (fun n c=>n*256+c.toNat) b=b*256^X.length+Gf X
 | [],b=>by simp[Gf]
 | c::X,b=>by
  unfold Gf;rw[fE,fE,qy X,qy X (0*256+c.toNat),az,sS,dG,aZ,rM,Nat.mul_assoc,Nat.mul_comm 256];omega
theorem JU:∀(X:Qb) (b:Nat),be X.length ((X.foldl (fun n c=>n*256+c.toNat) b:Nat):Int)=X
 | [],_=>rfl
 | c::X,b=>by
  rw[az,be,fE,JU X,JS,qy];congr 1;have A:=CQ X;have B:=c.toNat_lt;rw[Nat.add_comm,Nat.add_mul_div_right _ _ (by exact Nat.pow_pos Zd),Nat.div_eq_of_lt A,aZ,Nat.add_comm,Nat.add_mul_mod_self_right,Nat.mod_eq_of_lt Zo];simp
theorem MF(X:Qb)(h:X.length=8):be 8 (mJ X)=X:=by
 rw[Es X Zo];have:=JU X 0;rw[h] at this;exact this
theorem gu(X:Qb)(h:X.length<=8):0<=mJ X/\mJ X<18446744073709551616:=by
 rw[Es X h];have A:=CQ X;have B:256^X.length<=256^8:=Nat.pow_le_pow_right Zd h;have C:(256:Nat)^8=18446744073709551616:=Zd;omega
