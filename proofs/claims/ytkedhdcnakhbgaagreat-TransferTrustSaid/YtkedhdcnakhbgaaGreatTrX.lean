/- The example of the chapter, on paper. -/
import Derived.Test.YtkedhdcnakhbgaaGreatTrL
import Derived.Test.YtkedhdcnakhbgaaGreatTrH
import Derived.Test.YtkedhdcnakhbgaaGreatP8
set_option linter.unusedSimpArgs false
set_option maxRecDepth 100000
set_option maxHeartbeats 16000000
open Go.Lib (hid)
namespace Go.Proofs.YtkedhdcnakhbgaaGreat
open Go.RowKit Go.Shelf
set_option linter.unusedVariables false
def txA:Qb:=[2,0]
def txB:Qb:=[3,8,57,84,7,180,241,54,63,8,50,134,7,180,235,108,135,0,3,97,110,110,0,0]
def dA:Int×Int:=(592597218053142079,590681868797176967)
def dB:Int×Int:=(4535459373733311619,9269567812097712015)
def exX:List Itm:=[⟨dA,txA⟩,⟨dB,txB⟩]
def oA:Ob:=⟨2,[],[],(0,0),[],[],0,[]⟩
def oB:Ob:=⟨3,[],[],dA,[],[97,110,110],0,[]⟩
theorem putA:putS [] oA=([⟨dA,txA⟩],dA,0):=by decide +kernel
theorem putB:putS [⟨dA,txA⟩] oB=(exX,dB,0):=by decide +kernel
theorem chkX:mV exX=0:=by decide +kernel
theorem ascX:Asc exX:=(checkP_zero chkX).2
theorem reachB:dh exX [dB]=([dA,dB],[]):=by
 have h:fI exX (jC exX [dB]) [dB] [(0,0)] [] []=([dB,dA],[]):=by decide +kernel
 unfold dh;rw[h];refine Prod.ext (yT (zm (by decide)) (by unfold EX; decide) (fun x=>?_)) (by simp[kV]);rw[(lJ _).mem_iff];simp[or_comm]
theorem reachN:dh exX []=([],[]):=by
 have h:fI exX (jC exX []) [] [(0,0)] [] []=([],[]):=by decide +kernel
 unfold dh;rw[h];simp[kV]
theorem sendX:M6 exX [dB] []=([dA,dB],0):=by
 have h:vI exX ([dB]++[])=0:=by decide +kernel
 unfold M6;rw[h,reachB,reachN];decide
theorem fullX:fullS exX [dB]=true:=by
 unfold fullS;rw[reachB]
 decide +kernel
def pkT:Qb:=(zP exX [dA,dB] []).1
theorem packX:zP exX [dA,dB] []=(pkT,0):=Prod.ext rfl (by decide +kernel)
theorem pkT_len:pkT.length=79:=by decide +kernel
theorem unpX:tu pkT []=(exX,0):=by decide +kernel
