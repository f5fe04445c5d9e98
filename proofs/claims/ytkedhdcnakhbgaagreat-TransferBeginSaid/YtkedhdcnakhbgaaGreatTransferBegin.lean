/- TransferBegin: Begin, Request and Result return the results of the reference implementation for any valid pools without cycles and any digests, also after any streams (within the statement's bounds). No condition. -/
import Derived.Test.YtkedhdcnakhbgaaGreatRows
import Derived.Test.YtkedhdcnakhbgaaGreatTransferBeginW
import Derived.ProofKit
import Derived.OpenShut
import Derived.ShutString
set_option linter.unusedSimpArgs false
set_option maxRecDepth 100000
set_option maxHeartbeats 16000000
namespace Go.Proofs.YtkedhdcnakhbgaaGreat.transferBegin
open Go.ChangeShapes Go.WideShapes Go.ChangeAt Go.RowKit
open Go.ChangeMaps (open_string shut_string)
set_option linter.unusedVariables false
theorem own:ownKnob Tryz.prog.godebug=none:=by kernel_rfl
theorem laidOut:laidOutB Tryz.prog=true:=by kernel_rfl
theorem lifted(os:Os)(started:os.Started)(H:Type)(enc:TypeId×Value->H):
  ReturnsInHanded {} Tryz.checked os 3 .any (Rows.transferBeginSpec.pre6 enc Tryz.prog Tryz.f3 Rows.transferBeginRow.domain false) (Rows.transferBeginSpec.post enc Tryz.prog Tryz.f3 false true false false):=by
 refine returnsInHanded_of_change (C:=Tryz.checked) own started (by kernel_rfl) Tryz.func3
  (ChangeSpec.witness6 (enc:=enc) (C:=Tryz.checked) false ⟨#[],#[.agg #[.slice none 0 0,.slice none 0 0,.slice none 0 0,.slice none 0 0,.slice none 0 0,.int .i64 0]],[]⟩ 8 (by kernel_rfl) (by kernel_rfl) (by kernel_rfl) (by kernel_rfl)) ?_
 intro W base args ds gs before B K L _;have D:∀(j:Nat) t v,Tryz.f3.params[j]? = some t->args[j]? = some v->Value.okWide Tryz.prog W .any base t v:=B;have F:=K;obtain⟨p,q,E,M,rfl,O,Q⟩:=K;have J:DataW.TrodAll enc Tryz.prog W 0 (fun _=>true) true Tryz.f3.params.toList args.toList ds p:=E;rw[Tryz.params3] at J D;obtain⟨v0,vs0,d0,ds0,p0,q0,G,rfl,rfl,I,r0⟩:=trodAll_cons J;obtain⟨rfl,rfl,rfl⟩:=trodAll_nil r0;obtain rfl:args=#[v0]:=by cases args; simp_all
 obtain⟨rfl,rfl⟩:=trodVars_none M;have k0:=I;have lt0:∀x∈p0,x.block<W.heap.size:=by obtain⟨m,P⟩:=k0; exact DataW.trod_lt m _ _ _ P
 obtain⟨x0,a0,rfl,w0⟩:=open_fetch (D 0 27 v0 rfl rfl) I;clear E B;refine(walk x0 a0 W w0).mono fun e W' ⟨N,bel⟩=>?_
 subst N;exact⟨_,rfl,_,_,_,[],_,[],F,trodAll_mk1 (shut_bool Tryz.underlying4 _),(trodAll_cons_mk (Below.trod laidOut (by kernel_rfl) (of_decide_eq_true (by kernel_rfl)) k0 bel lt0) trodAll_mk0),rfl,bel.frame _,fun h=>by cases h⟩
theorem over:Rows.transferBeginRow.holds Tryz.pinned (OpenSpec.ofChange Rows.transferBeginSpec):=
 OpenClaim.holds_of_wide 3 Tryz.f3 rfl rfl rfl rfl rfl rfl rfl ⟨rfl,rfl,rfl,rfl,rfl⟩ rfl rfl rfl rfl rfl (by kernel_rfl) Tryz.func3 (by kernel_rfl)
  (of_decide_eq_true (by kernel_rfl)) (by unfold Func.isWrapper; first | (rw[if_pos (by decide +kernel)]; kernel_rfl) | (rw[if_neg (by decide +kernel)]; exact⟨rfl,rfl⟩))
  (fun os started H enc _=>lifted os started H enc)
theorem proved:Rows.TransferBeginSaid:=over
