/- What holds of a session whatever it receives. No program in sight. -/
import Derived.Test.YtkedhdcnakhbgaaGreatTrE
import Derived.Test.YtkedhdcnakhbgaaGreatTrC
set_option linter.unusedSimpArgs false
set_option maxRecDepth 100000
set_option maxHeartbeats 16000000
namespace Go.Proofs.YtkedhdcnakhbgaaGreat
open Go.RowKit Go.Shelf
set_option linter.unusedVariables false
variable {X:List Itm}{com want:Qd}{s:Ses}
structure InvS (X:List Itm) (want com:Qd) (s:Ses):Prop where
 w:s.want=want
 c:s.com=com
 k:s.asked=decide (0<s.ps.length)
 cp:mV s.xs=0
 n:s.done=false->s.xs=X
 d:s.done=true->fullS s.xs want=true/\∀x∈X,x∈s.xs
theorem fin_inv(B:s.want=want)(D:s.com=com)(A:mV s.xs=0)(E:s.xs=X)(H:s.done=false)(T:Qb):InvS X want com { finS s T with asked:=decide (0<(finS s T).ps.length) }:=by
 unfold finS;split
 ·rename_i J
  obtain⟨K,I⟩:=J;have C:=checkP_zero A;have F:=OD C.2 C.1 (Q:=(tu T s.xs).1) (s:=T) (Prod.ext rfl K);refine⟨B,D,rfl,F.chk,fun e=>(by cases e),fun _=>⟨by rw[<-B]; exact I,fun x G=>?_⟩⟩;rw[<-E,<-F.keep] at G;exact(List.mem_filter.1 G).1
 ·exact⟨B,D,rfl,A,fun _=>E,fun e=>by rw[H] at e; cases e⟩
theorem take_inv(h:InvS X want com s)(m:Msg):InvS X want com (takeS s m).1:=by
 unfold takeS;split
 ·exact h
 rename_i B;split
 ·exact h
 have A:s.done=false:=by cases C:s.done with | false=>rfl | true=>exact absurd (.inl C) B
 simp only;unfold putPS;split
 ·exact fin_inv (s:={ s with id:=(gatS s m).2.1,tot:=(gatS s m).2.2.1,ps:=(gatS s m).2.2.2 }) h.w h.c h.cp (h.n A) A _
 ·exact⟨h.w,h.c,rfl,h.cp,h.n,h.d⟩
theorem rec_inv{X:List Itm}{want com:Qd}:∀(ms:List Msg) {s:Ses},InvS X want com s->InvS X want com (recS s ms).1
 | [],_,h=>h
 | m::ms,_,h=>rec_inv ms (take_inv h m)
theorem req_ok(M:s.done=false)(V:s.want.length+s.com.length<=1000)(H:gm s.id s.tot s.ps=true):(reqS s).2=0:=by
 have K:(encS (wantM s.want s.com)).2=0:=by
  unfold encS;rw[if_pos];unfold Msg.why whyM wantM vM;simp only[af,aK];rw[if_neg (by omega),if_neg (by omega),if_neg];rw[if_pos trivial];simp only[decide_eq_false_iff_not,Classical.not_not,and_true];omega
 unfold reqS;rw[if_neg (by rw[M]; simp),if_neg (by rw[K]; simp)];split
 ·rfl
 rename_i E;have L:(encS (gapM s)).2=0:=by
  obtain⟨xs,want,com,id,tot,ps,asked,dn⟩:=s;simp only at H E;cases ps with
  | nil=>exact absurd (.inl rfl) E
  | cons p r=>
   obtain⟨B,N,O,T,U⟩:=vParts_vgo H;have C:=ni B;have F:=C p (by simp);unfold encS;rw[if_pos];have J:1<=(O8 id tot (p::r)).2.1/\(O8 id tot (p::r)).2.1<=1048576/\0<=(O8 id tot (p::r)).1/\(O8 id tot (p::r)).1<=1048576-(O8 id tot (p::r)).2.1:=by
    have A:(O8 id tot (p::r)).2.2=true:=by
     cases D:(O8 id tot (p::r)).2.2 with
     | true=>rfl
     | false=>exact absurd (.inr D) E
    rw[uG] at A ⊢;rw[if_neg (by rw[H]; simp)] at A ⊢;by_cases I:0<p.1
    ·rw[if_pos I]
     simp only;have:=F.2.2.1;simp only[pend] at this;omega
    ·rw[if_neg I] at A ⊢
     by_cases D:pend p=nxt tot r
     ·rw[if_pos D] at A; cases A
     ·rw[if_neg D]
      simp only;have Q:=F.2.2.1;have P:=F.1;have R:0<=pend p:=by simp only[pend]; omega
      cases r with
      | nil=>simp only[nxt] at D ⊢; omega
      | cons q r=>
       simp only[nxt] at D ⊢;have S:=C q (by simp);have G:pend p<q.1:=by
        unfold vgo at B;simp only[Bool.and_eq_true,decide_eq_true_eq] at B;have:=B.2;unfold vgo at this;simp only[Bool.and_eq_true,decide_eq_true_eq] at this;simp only[pend];omega
       have:=S.2.2.1;simp only[pend] at this ⊢ G;omega
   unfold Msg.why whyM gapM vM;simp only[aK];rw[if_neg (by omega),if_neg (by omega),if_neg];rw[if_neg (by omega),if_neg (by omega),if_pos trivial];simp only[decide_eq_false_iff_not,Classical.not_not,and_true];omega
 rw[if_neg (by rw[L]; simp)]
