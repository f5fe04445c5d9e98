/- Joined texts: TrX, TrY. -/
import Derived.Test.YtkedhdcnakhbgaaGreatTrL
import Derived.Test.YtkedhdcnakhbgaaGreatTrH
import Derived.Test.YtkedhdcnakhbgaaGreatP8
/- The example of the chapter,on paper. -/
set_option linter.unusedSimpArgs false
set_option maxRecDepth 100000
set_option maxHeartbeats 16000000
namespace Go.Proofs.YtkedhdcnakhbgaaGreat
open Go.RowKit Go.Shelf
set_option linter.unusedVariables false
def txA:Qb:=[2,0]
def txB:Qb:=[3,8,57,84,7,180,241,54,63,8,50,134,7,180,235,108,135,0,3,97,110,110,0,0]
def dA:Int×Int:=(592597218053142079,590681868797176967)
def dB:Int×Int:=(4535459373733311619,9269567812097712015)
def exX:List Itm:=[⟨dA,txA⟩,⟨dB,txB⟩]
def oA:Ob:=⟨2,[],[],(0,0),[],[],0,[]⟩
def oB:Ob:=⟨3,[],[],dA,[],[97,110,110],0,[]⟩
theorem putA:putS [] oA=([⟨dA,txA⟩],dA,0):=by decide +kernel
theorem putB:putS [⟨dA,txA⟩] oB=(exX,dB,0):=by decide +kernel
theorem chkX:mV exX=0:=by decide +kernel
theorem ascX:Asc exX:=(checkP_zero chkX).2
theorem reachB:dh exX [dB]=([dA,dB],[]):=by
 have h:fI exX (jC exX [dB]) [dB] [(0,0)] [] []=([dB,dA],[]):=by decide +kernel
 unfold dh;rw[h];refine Prod.ext (yT (zm (by decide)) (by unfold EX; decide) (fun x=>?_)) (by simp[kV]);rw[(lJ _).mem_iff];simp[or_comm]
theorem reachN:dh exX []=([],[]):=by
 have h:fI exX (jC exX []) [] [(0,0)] [] []=([],[]):=by decide +kernel
 unfold dh;rw[h];simp[kV]
theorem sendX:M6 exX [dB] []=([dA,dB],0):=by
 have h:vI exX ([dB]++[])=0:=by decide +kernel
 unfold M6;rw[h,reachB,reachN];decide
theorem fullX:fullS exX [dB]=true:=by
 unfold fullS;rw[reachB]
 decide +kernel
def pkT:Qb:=(zP exX [dA,dB] []).1
theorem packX:zP exX [dA,dB] []=(pkT,0):=Prod.ext rfl (by decide +kernel)
theorem pkT_len:pkT.length=79:=by decide +kernel
theorem unpX:tu pkT []=(exX,0):=by decide +kernel
deriving instance DecidableEq for Ses
def se1:Ses:=⟨[],[dB],[],0,0,[],false,false⟩
def pid:Int:=pidS pkT
def rq1:Qb:=(reqS se1).1
def fr2:Qb:=(repS pid pkT 0 pkT.length 40).1
def pt0:Msg:=⟨2,pid,0,79,[],pkT.take 40⟩
def pt1:Msg:=⟨2,pid,40,79,[],pkT.drop 40⟩
def fr0:Qb:=(encS pt0).1
def se2:Ses:=⟨[],[dB],[],pid,79,[(0,pkT.take 40)],true,false⟩
def rq2:Qb:=(reqS se2).1
def se3:Ses:=⟨exX,[dB],[],0,0,[],false,true⟩
theorem begX:begS [] [dB] []=(se1,0):=by
 have h:fullS [] [dB]=false:=by
  unfold fullS;rw[show List.all [dB] (I7 [])=false by decide +kernel,Bool.false_and]
 unfold begS;rw[h];decide
theorem reqX1:reqS se1=(rq1,0):=Prod.ext rfl (by decide +kernel)
theorem scanR1:BG rq1 [⟨1,0,((1:Nat):Int),0,[dB],[]⟩] rq1.length:=by
 have h:=BG.step (s:=rq1) (m:=⟨1,0,((1:Nat):Int),0,[dB],[]⟩) (u:=rq1.length) (l:=[]) (n:=0) (by decide +kernel) (.stop (by decide +kernel));exact h
theorem repX:repS pid pkT 0 pkT.length 40=(fr2,0):=Prod.ext rfl (by decide +kernel)
theorem scanF:BG fr2 [pt0,pt1] fr2.length:=by
 have h:=BG.step (s:=fr2) (m:=pt0) (u:=fr0.length) (by decide +kernel) (BG.step (m:=pt1) (u:=fr2.length-fr0.length) (by decide +kernel) (.stop (by decide +kernel)));have e:fr0.length+(fr2.length-fr0.length+0)=fr2.length:=by decide +kernel
 rw[e] at h;exact h
theorem encP0:encS pt0=(fr0,0):=Prod.ext rfl (by decide +kernel)
theorem scanF0:BG fr0 [pt0] fr0.length:=BG.step (s:=fr0) (m:=pt0) (u:=fr0.length) (l:=[]) (n:=0) (by decide +kernel) (.stop (by decide +kernel))
theorem takX0:takeS se1 pt0=(se2,true):=by decide +kernel
theorem takX1:takeS se2 pt0=(se2,true):=by decide +kernel
theorem reqX2:reqS se2=(rq2,0):=Prod.ext rfl (by decide +kernel)
def fq1:Qb:=(encS ⟨1,0,1,0,[dB],[]⟩).1
theorem scanR2:BG rq2 [⟨1,0,1,0,[dB],[]⟩,⟨3,pid,40,39,[],[]⟩] rq2.length:=by
 have h:=BG.step (s:=rq2) (m:=⟨1,0,1,0,[dB],[]⟩) (u:=fq1.length) (by decide +kernel) (BG.step (m:=⟨3,pid,40,39,[],[]⟩) (u:=rq2.length-fq1.length) (by decide +kernel) (.stop (by decide +kernel)));have e:fq1.length+(rq2.length-fq1.length+0)=rq2.length:=by decide +kernel
 rw[e] at h;exact h
theorem gatX:gatS se2 pt1=(0,pid,79,[(0,pkT)]):=by decide +kernel
theorem wholeX:y9 pid 79 [(0,pkT)]=(pkT,true):=by decide +kernel
theorem takX2:takeS se2 pt1=(se3,true):=by
 have A:putPS se2 (pid,79,[(0,pkT)])={ se3 with asked:=true }:=by
  unfold putPS;simp only;rw[wholeX]
  show finS { se2 with id:=pid,tot:=79,ps:=[(0,pkT)] } pkT=_;unfold finS;have B:tu pkT ({ se2 with id:=pid,tot:=79,ps:=[(0,pkT)] }:Ses).xs=(exX,0):=unpX;rw[B,if_pos ⟨rfl,fullX⟩];rfl
 unfold takeS;rw[if_neg (by decide),gatX,if_neg (by simp),A];rfl
theorem recX0:recS se1 [pt0]=(se2,1):=by
 rw[recS,takX0]; rfl
theorem recX:recS se2 [pt0,pt1]=(se3,2):=by
 rw[recS,takX1];simp only;rw[recS,takX2];rfl
