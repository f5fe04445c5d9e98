/- A session, on paper, further. -/
import Derived.Test.YtkedhdcnakhbgaaGreatTrP
import Derived.Test.YtkedhdcnakhbgaaGreatW5
import Derived.Test.YtkedhdcnakhbgaaGreatW4
set_option linter.unusedSimpArgs false
set_option maxRecDepth 100000
set_option maxHeartbeats 16000000
open Go.Lib (hid)
namespace Go.Proofs.YtkedhdcnakhbgaaGreat
open Go.RowKit Go.Shelf
set_option linter.unusedVariables false
variable {m:Msg}{b:Nat}{s:Qb}{A:SesA}{W:World}
theorem vgo_len2{tot:Int}:∀{ps:List P} {e:Int},vgo tot e ps=true->ps=[]\/2*(ps.length:Int)<=tot-e
 | [],_,_=>.inl rfl
 | p::ps,e,h=>by
  rw[vgo] at h;simp only[Bool.and_eq_true,decide_eq_true_eq] at h;obtain⟨⟨⟨⟨C,A⟩,D⟩,E⟩,B⟩:=h;have G:0<p.2.length:=bJ.2 (by simpa using A);right;rcases vgo_len2 B with rfl | F
  ·simp only[az,aK]; omega
  ·simp only[az]; omega
theorem vParts_len1{id tot:Int}{ps:List P}(h:gm id tot ps=true):(ps.length:Int)<=1048576:=by
 cases ps with
 | nil=>simp
 | cons p ps=>
  obtain⟨A,_,_,B,C⟩:=vParts_vgo h;rcases vgo_len2 A with h | h
  ·cases h
  ·omega
theorem why_vM(h:m.why=0):vM m.kind m.off m.tot m.ds.length m.data.length=true:=by
 unfold Msg.why whyM at h;split at h
 ·cases h
 ·split at h
  ·cases h
  ·split at h
   ·cases h
   ·rename_i A; simpa using A
theorem enc_len(m:Msg):((encS m).1.length:Int)<=200000:=by
 unfold encS;by_cases h:m.why=0
 ·rw[if_pos h]
  obtain⟨_,_,_,_,_,_,A,B⟩:=zk (why_vM h);have:=Bn m A B;unfold O9;simp only[af,bY];omega
 ·rw[if_neg h]; simp
theorem decS_vM{l:Qb}(h:Jw l=some m):vM m.kind m.off m.tot m.ds.length m.data.length=true:=by
 unfold Jw at h;split at h
 ·split at h
  ·cases h
  ·unfold Pk at h
   split at h
   ·cases h
   ·split at h
    ·rename_i A; cases h; exact A
    ·cases h
 ·cases h
theorem frameS_vM{u:Nat}(h:pg s=some (m,u)):vM m.kind m.off m.tot m.ds.length m.data.length=true:=by
 unfold pg at h;split at h
 ·cases h
 ·split at h
  ·cases h
  ·split at h
   ·cases h
   ·simp only[Option.map_eq_some_iff,Prod.mk.injEq] at h
    obtain⟨m',A,rfl,_⟩:=h;exact decS_vM A
theorem scans_vM{ms:List Msg}{n:Nat}(h:BG s ms n):∀m∈ms,vM m.kind m.off m.tot m.ds.length m.data.length=true:=by
 induction h with
 | stop h=>intro m A; cases A
 | step h r ih=>
  intro m A;rcases List.mem_cons.1 A with rfl | A
  ·exact frameS_vM h
  ·exact ih m A
theorem chk_parts{x:Itm}(h:vg x=0):(bI x.data).2=0/\iY x.data=x.d:=by
 unfold vg at h;by_cases A:(bI x.data).2=0
 ·rw[if_neg (by simpa using A)] at h
  by_cases B:iY x.data=x.d
  ·exact⟨A,B⟩
  ·rw[if_pos B] at h; cases h
 ·rw[if_pos A] at h; cases h
theorem dec_len(h:(bI s).2=0):s.length<=65536:=by
 have A:=(kI (o:=(bI s).1) (Prod.ext rfl h)).1;unfold aR at A;split at A
 ·simp only[Prod.mk.injEq] at A; omega
 ·split at A
  ·simp at A
  ·simp only[Prod.mk.injEq] at A
   rw[<-A.1]; omega
theorem SesIn.far{s:Ses}{B:Nat}(h:SesIn W s A b)(E:W.heap.size<=B):SesIn W s A B:=
 ⟨h.hp,h.hr,h.hw,h.hc,h.hq,h.cq,h.cw,h.cc,fun ad e C=>by
  obtain⟨k,o,e2,D,_⟩:=h.hp.its 0 C;rw[e] at e2; cases e2;intro e3; injection e3 with e3; have e4:B=k:=e3; omega,fun C ad e=>by
  obtain⟨k,o,e2,D,_⟩:=h.hw 0 C;rw[e] at e2; cases e2;intro e3; injection e3 with e3; have e4:B=k:=e3; omega,fun C ad e=>by
  obtain⟨k,o,e2,D,_⟩:=h.hc 0 C;rw[e] at e2; cases e2;intro e3; injection e3 with e3; have e4:B=k:=e3; omega,fun ad e C=>by
  obtain⟨k,o,e2,D,_⟩:=h.hq 0 C;rw[e] at e2; cases e2;intro e3; injection e3 with e3; have e4:B=k:=e3; omega,h.ow,h.oc,h.ck,h.lx,h.ly,h.lw,h.lc,h.vp⟩
theorem unp_pool{s:Ses}(h:SesIn W s A b){T:Qb}{Q:List Itm}(G:tu T s.xs=(Q,0)):Q.length<=s.xs.length+1000/\(∀x∈Q,vg x=0)/\Asc Q/\OU Q (s.xs.map (·.d))=s.xs/\∀c,Q.length<=c->Q.length<=100000->Ps Q c:=by
 have D:=OD h.hr.asc h.ck G;obtain⟨C,E⟩:=checkP_zero D.chk;have H:(bi T).1.length<=1000:=(uM (Prod.ext rfl D.ent)).2.1;exact⟨by have:=D.len; omega,C,E,D.keep,fun c F I=>⟨E,fun x B=>(chk_parts (C x B)).1,fun x B=>by rw[<-(chk_parts (C x B)).2]; exact digS_ok _,by omega,fun x B=>by have:=dec_len (chk_parts (C x B)).1; omega,F⟩⟩
