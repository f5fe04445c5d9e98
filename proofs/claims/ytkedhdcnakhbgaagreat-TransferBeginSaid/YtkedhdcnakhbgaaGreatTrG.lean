/- transfer.reply. -/
import Derived.Test.YtkedhdcnakhbgaaGreatTrD
set_option linter.unusedSimpArgs false
set_option maxRecDepth 100000
set_option maxHeartbeats 16000000
namespace Go.Proofs.YtkedhdcnakhbgaaGreat
open Go.RowKit Go.Shelf
set_option linter.unusedVariables false
variable {id size:Int}{m:Msg}{D:Qb}
def repGo(n f:Nat):List Msg->Qb->Qb×Int
 | [],acc=>(acc,0)
 | m::ms,acc=>if(encS ⟨m.kind,m.id,m.off+f,n,m.ds,m.data⟩).2≠0 then([],(encS ⟨m.kind,m.id,m.off+f,n,m.ds,m.data⟩).2) else repGo n f ms (acc++(encS ⟨m.kind,m.id,m.off+f,n,m.ds,m.data⟩).1)
def repS(id:Int)(d:Qb)(f t:Nat)(size:Int):Qb×Int:=if(ww id ((d.drop f).take (t-f)) size).2≠0 then([],(ww id ((d.drop f).take (t-f)) size).2) else repGo d.length f (ww id ((d.drop f).take (t-f)) size).1 []
theorem repGo_at{n f k:Nat}{ms:List Msg}{acc:Qb}(h:k<ms.length):repGo n f (ms.drop k) acc=if(encS ⟨ms[k].kind,ms[k].id,ms[k].off+f,n,ms[k].ds,ms[k].data⟩).2≠0 then([],(encS ⟨ms[k].kind,ms[k].id,ms[k].off+f,n,ms[k].ds,ms[k].data⟩).2) else repGo n f (ms.drop (k+1)) (acc++(encS ⟨ms[k].kind,ms[k].id,ms[k].off+f,n,ms[k].ds,ms[k].data⟩).1):=by
 rw[aN h,repGo]
theorem split_mem(h:m∈(ww id D size).1):m.ds=[]/\m.data.length<=D.length/\0<=m.off/\m.off<=1099511627776:=by
 unfold ww at h;split at h
 ·cases h
 ·split at h
  ·cases h
  ·obtain⟨i,C,rfl⟩:=bV.1 h
   refine⟨rfl,by simp only[part,aA,ah]; omega,by simp only[part]; omega,?_⟩;have A:=List.mem_range.1 C;simp only[part];obtain⟨z,E⟩:=Qe size.toNat;rw[<-E] at A ⊢;have F:1<=z:=by omega
   have G:i*z<=D.length+z:=by
    have B:(i+1)*z<=D.length+z-1:=aC (pK z A) (Nat.div_mul_le_self _ _);rw[rM] at B;omega
   have:((i*z:Nat):Int)<=1099511627776:=by omega
   exact this
theorem split_len:((ww id D size).1.length:Int)<=D.length+100000:=by
 unfold ww;split
 ·simp; omega
 ·split
  ·simp; omega
  ·rename_i A B
   simp only[parts,fC,List.length_range];have:=Nat.div_le_self (D.length+size.toNat-1) size.toNat;omega
theorem encS_ne(h:(encS m).2=0):(encS m).1≠[]:=by
 unfold encS at h ⊢;by_cases A:m.why=0
 ·rw[if_pos A]
  intro e;have:=congrArg List.length e;simp only[O9,af,bY,aK] at this;omega
 ·rw[if_neg A] at h; exact absurd h A
theorem reply_any(id:Int)(d:Qb)(f t:Nat)(size:Int)(w:World)(D7:f<=t)(B9:t<=d.length)(hd:(d.length:Int)<=1048576):
  Qh 51 #[.int .i64 id,.string ⟨d.toArray⟩,.int .i64 f,.int .i64 t,.int .i64 size] w fun e w'=>e=.returned (.tuple #[.string ⟨(repS id d f t size).1.toArray⟩,.int .i64 (repS id d f t size).2])/\PM w w':=by
 obtain⟨R,Y⟩:=Qe (repS id d f t size);rw[<-Y];unfold repS at Y;obtain⟨D,hD⟩:=Qe ((d.drop f).take (t-f));rw[<-hD] at Y;have B6:D.length<=d.length:=by rw[hD,aA,ah]; omega
 have E1:=bH d;have D6:(⟨d.toArray⟩:ByteArray).extract f t=⟨D.toArray⟩:=by rw[dw,<-hD]
 have B8:=fun W=>DD d f t D7 B9 W
 rw[<-hD] at B8;have J:=Qf (OH id D size w (by omega));have V:=Qf (fun m (h:m∈(ww id D size).1)=>split_mem h);have P:=split_len (id:=id) (D:=D) (size:=size);generalize ww id D size=SP at J V Y P;obtain⟨ms,er⟩:=SP;simp only at J V Y P;have I:=Qf Y;obtain⟨n,hn⟩:=Qe d.length;rw[<-hn] at I B9 hd B6 E1;obtain⟨N,hN⟩:=Qe ms.length;rw[<-hN] at P;have HN:=Qf hN;have C5:Qg ((D.length:Int)<=1048576):=Qf (by omega);have F4:(N:Int)<=1200000:=by omega
 clear Y hD hn hN B6 P;go_enter Tryz.func51,Tryz.ntmps51;go_wp2_with fail
 refine J.o.mono ?_;rintro e u1 ⟨a,c,rfl,B7,B4,hc⟩
 rw[<-HN.o];have C7:=Qf B7;have C:=Qf B4;clear B7 B4 hc J B8 D6;by_cases he:er=0
 ·subst he
  have B:=Qf (I.o.trans (if_neg (by simp)));obtain⟨b,M⟩:=Qe u1.heap.size;obtain⟨u2,Q⟩:=Qe (u1.alloc (.cells #[.pointer none,.slice none 0 0] 118));have F:PM u1 u2:=by rw[Q]; exact ba _ _
  have A0:u2.heap[b]? = some (.cells #[.pointer none,.slice none 0 0] 118 (0,0)):=by rw[Q,M]; exact World.alloc_heap_new _ _
  have C6:=Qf A0;have A5:=Qf (BW.start F (by rw[M]; exact nr) A0);have A7:=Qf Q;have A4:=Qf M;clear F A0 Q M I;go_wp2_with fail;rw[<-A7.o,<-A4.o];clear A7 A4;go_loopw [34] (fun i wr=>∃(k:Nat) (acc:Qb),k<=N/\i=.int .i64 (k:Int)/\acc.length<=k*200000/\Qg (BW u1 u2 b acc wr)/\Qg (R=repGo n f (ms.drop k) acc)/\Qg (k=0->wr=u2/\acc=[])/\Qg (0<k->acc≠[])) (fun i _=>N-(intOf i).toNat)
  case atStart=>exact⟨0,[],by omega,rfl,by simp,A5,B,Qf (fun _=>⟨rfl,rfl⟩),Qf (fun h=>by omega)⟩
  case round=>
   clear A5 B;obtain⟨k,acc,hk,rfl,D3,X,I,HZ,K⟩:=hrel;by_cases F0:k<N
   ·have D9:(k:Int)<(N:Int):=by omega
    have h1:k<ms.length:=by have:=HN.o; omega
    obtain⟨b0,of0,da,cd,B1,E6,q0,q1,q2,q3,q4,q5,Z⟩:=(C7.o.below X.out.bel nr) k h1;have A2:=V.o _ (ak h1);have G:=I.o.trans (repGo_at h1);generalize ms[k]=m at q0 q1 q2 q3 q4 q5 Z A2 G;obtain⟨kind,mid,off,mtot,dd,data⟩:=m;simp only at q0 q1 q2 q3 q4 q5 Z A2 G;obtain⟨rfl,F1,F2,F3⟩:=A2;have E8:(data.length:Int)<=1048576:=by have:=C5.o; omega
    have A3:IntKind.i64.wrap (off+(f:Int))=off+(f:Int):=wrap_i64 (by omega) (by omega);obtain⟨v,hv⟩:=Qe (wr.alloc (.cells #[.int .i64 kind,.int .i64 mid,.int .i64 (off+(f:Int)),.int .i64 (n:Int),.slice da 0 cd,.string ⟨data.toArray⟩] 73));have B5:PM wr v:=by rw[hv]; exact ba _ _
    have A9:=Qf (X.out.below B5);have H:=Qf (MV ⟨kind,mid,off+(f:Int),n,[],data⟩ da cd v (fun i hi=>by simp at hi) (fun d hd=>by cases hd) (by simp) (by simp only; omega));have T:=Qf (enc_len ⟨kind,mid,off+(f:Int),n,[],data⟩);have U:=Qf (encS_ne (m:=⟨kind,mid,off+(f:Int),n,[],data⟩));generalize encS ⟨kind,mid,off+(f:Int),n,[],data⟩=ew at H T U G;obtain⟨S1,e1⟩:=ew;simp only[Msg.val,aK] at H T U G q4;have L:=Qf G;rw[hv] at H;have HV:=Qf hv;have B2:=B1;subst B1;clear hv B5 X I HZ K G Z B2;go_wp2_with fail
    refine H.o.mono ?_;rintro e v2 ⟨rfl,F⟩
    rw[<-HV.o] at F;have E:=Qf (A9.o.below F);clear H F A9 HV q0 q1 q2 q3 q4 q5;by_cases O:e1=0
    ·subst O
     have B:=Qf (L.o.trans (if_neg (by simp)));have E0:=T.o;have D8:k*200000<=1200000*200000:=pK _ (by omega);have A8:=Qf (cz E.o S1 (by omega));have A6:Qg (0<k+1->acc++S1≠[]):=Qf (fun _ h=>U.o rfl (List.append_eq_nil_iff.1 h).2);have B3:(acc++S1).length<=(k+1)*200000:=by rw[af,rM]; omega
     clear L E D8 E0 D3;go_wp2_with fail
     refine A8.o.mono ?_;rintro e v3 ⟨rfl,C9⟩
     clear A8;go_wp2_with fail;go_roundw
     case rel=>exact⟨k+1,acc++S1,by omega,by go_num,B3,C9,B,Qf (fun h=>by omega),A6⟩
     case measure=>simp[intOf] <;> omega
    ·have D5:(e1 !=0)=true:=by simpa using O
     have B:Qg (R=([],e1)):=Qf (L.o.trans (if_pos O));have C4:=Qf (C.o.trans (E.o.bel.mono C.o.size));clear L E O;go_wp2_with fail;go_ret2;exact⟨by rw[B.o]; rfl,C4.o⟩
   ·obtain rfl:k=N:=by omega
    have D9:¬(k:Int)<(k:Int):=by omega
    have B:Qg (R=(acc,0)):=Qf (by rw[I.o,kR (by have:=HN.o; omega),repGo]);clear I;by_cases A1:k=0
    ·obtain⟨A3,D2⟩:=HZ.out A1
     subst D2;have HB:=Qf (C.o.trans (X.out.bel.mono C.o.size));rw[A3] at HB ⊢;have J:=Qf (Bo C6.o);have E4:=Qf A1;clear X HZ K A3 A1;go_wp2_with fail
     refine J.o.mono ?_;rintro e v1 ⟨rfl,hb⟩
     have S:=Qf (HB.o.trans (hb.mono HB.o.size));clear hb J;go_wp2_with fail;go_ret2;exact⟨by rw[B.o]; rfl,S.o⟩
    ·have J:=Qf (vC X.out (K.out (by omega)))
     clear X HZ K;go_wp2_with fail
     refine J.o.mono ?_;rintro e v1 ⟨rfl,E⟩
     have S:=Qf (C.o.trans (E.o.bel.mono C.o.size));clear E J;go_wp2_with fail;go_ret2;exact⟨by rw[B.o]; rfl,S.o⟩
 ·have D5:(er !=0)=true:=by simpa using he
  have B:Qg (R=([],er)):=Qf (I.o.trans (if_pos he));clear I he;go_wp2_with fail;go_ret2;exact⟨by rw[B.o]; rfl,C.o⟩
