/- Joined texts: WirePl. -/
import Derived.Test.YtkedhdcnakhbgaaGreatW2
/- Plain terms: parts lead to the text; gaps. -/
set_option linter.unusedSimpArgs false
set_option maxRecDepth 100000
set_option maxHeartbeats 16000000
namespace Go.Proofs.YtkedhdcnakhbgaaGreat
variable {id tot:Int}{ps:List P}
theorem vgo_length{tot:Int}:∀{ps:List P} {e:Int},vgo tot e ps=true->ps=[]\/(ps.length:Int)<=tot-e
 | [],_,_=>.inl rfl
 | p::ps,e,h=>by
  rw[vgo] at h;simp only[Bool.and_eq_true,decide_eq_true_eq] at h;obtain⟨⟨⟨⟨C,A⟩,D⟩,E⟩,B⟩:=h;have G:0<p.2.length:=bJ.2 (by simpa using A);right;rcases vgo_length B with rfl | F
  ·simp only[az,aK]; omega
  ·simp only[az]; omega
theorem vParts_vgo{p:P}(h:gm id tot (p::ps)=true):vgo tot (-1) (p::ps)=true/\0<=id/\id<=1099511627776/\0<=tot/\tot<=1048576:=by
 unfold gm at h;simp only[List.isEmpty_cons,Bool.false_or,Bool.and_eq_true,decide_eq_true_eq] at h;exact⟨h.2,h.1⟩
theorem vParts_bounds(h:gm id tot ps=true):(ps.length:Int)<=1048577/\∀p∈ps,p.2.length<=1048576:=by
 cases ps with
 | nil=>simp
 | cons p ps=>
  obtain⟨A,_,_,C,D⟩:=vParts_vgo h;refine⟨?_,fun q B=>?_⟩
  ·rcases vgo_length A with h | h
   ·cases h
   ·omega
  ·obtain⟨q0,_,q2,_⟩:=ni A q B
   simp only[pend] at q2; omega
