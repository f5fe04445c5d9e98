/- A session, on paper. No program but the cells' order. -/
import Derived.Test.YtkedhdcnakhbgaaGreatTrA
import Derived.Test.YtkedhdcnakhbgaaGreatP4
import Derived.Test.YtkedhdcnakhbgaaGreatW2
set_option linter.unusedSimpArgs false
set_option maxRecDepth 100000
set_option maxHeartbeats 16000000
open Go.Lib (hid)
namespace Go.Proofs.YtkedhdcnakhbgaaGreat
open Go.RowKit Go.Shelf
set_option linter.unusedVariables false
variable {xs:List Itm}{B b:Nat}{r:Option Nat}{a:Qa}{W W':World}
structure Ses where
 xs:List Itm
 want:Qd
 com:Qd
 id:Int
 tot:Int
 ps:List P
 asked:Bool
 done:Bool
structure SesA where
 ha:Qa
 hc:Nat
 wa:Qa
 wc:Nat
 ca:Qa
 cc:Nat
 pa:Qa
 pc:Nat
abbrev Ses.val(s:Ses)(A:SesA):Value:=.agg #[.slice A.ha s.xs.length A.hc,.slice A.wa s.want.length A.wc,.slice A.ca s.com.length A.cc,.int .i64 s.id,.int .i64 s.tot,.slice A.pa s.ps.length A.pc,.bool s.asked,.bool s.done]
abbrev Ses.cl(s:Ses)(A:SesA)(acc:Int):Array Value:=#[.slice A.ha s.xs.length A.hc,.slice A.wa s.want.length A.wc,.slice A.ca s.com.length A.cc,.int .i64 s.id,.int .i64 s.tot,.slice A.pa s.ps.length A.pc,.bool s.asked,.bool s.done,.int .i64 acc]
def oldS(s:Ses)(m:Msg):Int×Int×List P:=if s.ps=[]\/s.id≠m.id\/s.tot≠m.tot then(0,0,[]) else(s.id,s.tot,s.ps)
def finS(s:Ses)(T:Qb):Ses:=
 if(tu T s.xs).2=0/\fullS (tu T s.xs).1 s.want=true then { s with xs:=(tu T s.xs).1,id:=0,tot:=0,ps:=[],done:=true } else { s with id:=0,tot:=0,ps:=[] }
def gatS(s:Ses)(m:Msg):Int×Int×Int×List P:=nJ (oldS s m).1 (oldS s m).2.1 (oldS s m).2.2 m.kind m.id m.off m.tot m.ds.length m.data
def putPS(s:Ses)(g:Int×Int×List P):Ses:=if(y9 g.1 g.2.1 g.2.2).2=true then finS { s with id:=g.1,tot:=g.2.1,ps:=g.2.2 } (y9 g.1 g.2.1 g.2.2).1 else { s with id:=g.1,tot:=g.2.1,ps:=g.2.2 }
def takeS(s:Ses)(m:Msg):Ses×Bool:=
 if s.done=true\/m.kind≠2 then(s,false) else if(gatS s m).1≠0 then(s,false) else({ putPS s (gatS s m).2 with asked:=decide (0<(putPS s (gatS s m).2).ps.length) },true)
def recS:Ses->List Msg->Ses×Nat
 | s,[]=>(s,0)
 | s,m::ms=>((recS (takeS s m).1 ms).1,(if(takeS s m).2=true then 1 else 0)+(recS (takeS s m).1 ms).2)
theorem recS_snoc:∀(ms:List Msg) (s:Ses) (m:Msg),recS s (ms++[m])=((takeS (recS s ms).1 m).1,(recS s ms).2+if(takeS (recS s ms).1 m).2=true then 1 else 0)
 | [],s,m=>by
  simp only[aY,recS,aZ,Nat.add_zero];rfl
 | x::ms,s,m=>by
  rw[bz,recS,recS_snoc ms,recS];simp only[aP]
theorem Its.grown(h:Its B W a xs)(J:B<=W.heap.size)(H:W.grownBy W' r)(D:∀ad,a=some ad->0<xs.length->r≠some ad.block):Its B W' a xs:=by
 intro i I;obtain⟨b,off,rfl,C,E,F,G⟩:=h i I;have A:=H.block b (by omega) (fun e=>D _ rfl (by omega) e.symm);exact⟨b,off,rfl,C,(World.cell?_of_block (a:=⟨b,off+i*3,none⟩) A).trans E,(World.cell?_of_block (a:=⟨b,off+i*3+1,none⟩) A).trans F,(World.cell?_of_block (a:=⟨b,off+i*3+2,none⟩) A).trans G⟩
theorem jQ.grown{c:Nat}(h:jQ W a xs c)(B:W.grownBy W' r)(A:∀ad,a=some ad->0<xs.length->r≠some ad.block):jQ W' a xs c:=⟨(h.its.grown nr B A).mono B.size,h.cap,h.len,h.dat⟩
theorem Pcs.grown{ps:List P}(h:Pcs B W a ps)(I:B<=W.heap.size)(G:W.grownBy W' r)(C:∀ad,a=some ad->0<ps.length->r≠some ad.block):Pcs B W' a ps:=by
 intro i H;obtain⟨b,off,rfl,A,E,F⟩:=h i H;have D:=G.block b (by omega) (fun e=>C _ rfl (by omega) e.symm);exact⟨b,off,rfl,A,(World.cell?_of_block (a:=⟨b,off+i*2,none⟩) D).trans E,(World.cell?_of_block (a:=⟨b,off+i*2+1,none⟩) D).trans F⟩
structure SesIn (W:World) (s:Ses) (A:SesA) (b:Nat):Prop where
 hp:jQ W A.ha s.xs A.hc
 hr:Ps s.xs A.hc
 hw:dE W.heap.size W A.wa s.want
 hc:dE W.heap.size W A.ca s.com
 hq:Pcs W.heap.size W A.pa s.ps
 cq:s.ps.length<=A.pc
 cw:s.want.length<=A.wc
 cc:s.com.length<=A.cc
 nh:∀ad,A.ha=some ad->0<s.xs.length->some b≠some ad.block
 nw:0<s.want.length->∀ad,A.wa=some ad->some b≠some ad.block
 nc:0<s.com.length->∀ad,A.ca=some ad->some b≠some ad.block
 nq:∀ad,A.pa=some ad->0<s.ps.length->some b≠some ad.block
 ow:∀d∈s.want,OkD d
 oc:∀d∈s.com,OkD d
 ck:∀x∈s.xs,vg x=0
 lx:s.xs.length<=2000
 ly:s.done=false->s.xs.length<=1000
 lw:s.want.length<=1000
 lc:s.com.length<=1000
 vp:gm s.id s.tot s.ps=true
theorem SesIn.grown{s:Ses}{A:SesA}(h:SesIn W s A b)(B:W.grownBy W' (some b)):SesIn W' s A b:=
 ⟨h.hp.grown B h.nh,h.hr,h.hw.kept B h.nw,h.hc.kept B h.nc,(h.hq.grown nr B h.nq).mono B.size,h.cq,h.cw,h.cc,h.nh,h.nw,h.nc,h.nq,h.ow,h.oc,h.ck,h.lx,h.ly,h.lw,h.lc,h.vp⟩
theorem SesIn.below{s:Ses}{A:SesA}(h:SesIn W s A b)(B:PM W W'):SesIn W' s A b:=
 h.grown ⟨B.os,B.tape,B.output,B.size,fun k C _=>B.block k C⟩
theorem SesIn.nop{s:Ses}{A:SesA}(h:SesIn W s A b):SesIn W { s with id:=0,tot:=0,ps:=[] } { A with pa:=none,pc:=0 } b:=
 ⟨h.hp,h.hr,h.hw,h.hc,fun i B=>(by simp at B),nr,h.cw,h.cc,h.nh,h.nw,h.nc,fun ad e=>(by cases e),h.ow,h.oc,h.ck,h.lx,h.ly,h.lw,h.lc,rfl⟩
