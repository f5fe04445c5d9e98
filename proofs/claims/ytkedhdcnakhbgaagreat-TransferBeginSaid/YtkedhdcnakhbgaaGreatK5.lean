/- Joined texts: PoMp, PoLk, PoEq, PoSo, PoRs, PoRe, PoAw, PoO, PoSm, PoGr, PoKe, PoRf. -/
import Derived.Test.YtkedhdcnakhbgaaGreatK4
import Derived.DeepKeys4
import Derived.Maps.OwnSet
import Derived.Maps.Views
import Derived.Test.YtkedhdcnakhbgaaGreatPoSl
import Derived.ProofKit
import Derived.OpenShut
import Derived.ShutString
import Derived.Deep.Slices
import Derived.Deep.Fields
import Derived.Deep.RegionWith
/- A map from digests to bools,as a set. -/
set_option linter.unusedSimpArgs false
set_option maxRecDepth 100000
set_option maxHeartbeats 16000000
namespace Go.Proofs.YtkedhdcnakhbgaaGreat
open Go.RowKit Go.Shelf
set_option linter.unusedVariables false
variable {os:Array Obj}{x x' y y':Int}{d:Int×Int}{M M':Int×Int->Bool}{xs:List Itm}{b base f g n z:Nat}{row:Option Nat}{R met op:Qd}{u v:Value}{W W' w:World}
theorem K7:laidOutB Tryz.prog=true:=by kernel_rfl
theorem rowD:(54:TypeId)<Tryz.prog.types.size:=of_decide_eq_true (by kernel_rfl)
theorem wideD:(match Tryz.prog.underlying 54 with | some (.array _ _) | some (.struct _)=>true | _=>false)=true:=by rw[Tryz.underlying54]
theorem Ki:Maps.Keyed Tryz.prog 54:=Maps.Keyed.of_law (deep_law_laid K7 (m:=2) (by omega) rowD (by kernel_rfl) wideD)
theorem keyTD:Tryz.prog.keyType 54=true:=by kernel_rfl
theorem cellsD:Tryz.prog.cellsOf 54=2:=by kernel_rfl
theorem OC:∃m,Tryz.prog.types.size+1=m+2:=⟨Tryz.prog.types.size-1,by have:=of_decide_eq_true (p:=1<=Tryz.prog.types.size) (by kernel_rfl); omega⟩
abbrev PH(d:Int×Int):Value:=.agg #[.int .u64 d.1,.int .u64 d.2]
noncomputable def Ef(d:Int×Int):Lit:=(keyOf Tryz.prog 54 (PH d)).getD .nil
theorem wf_u64(h:Ku x):(Lit.int .u64 x).wf=true:=by
 unfold Ku at h;simp[Lit.wf,IntKind.min,IntKind.max,IntKind.signed,IntKind.bits];omega
theorem fK(h:OkD d):keyOf Tryz.prog 54 (PH d)=some (Ef d):=by
 have:∃l,keyOf Tryz.prog 54 (PH d)=some l:=by
  obtain⟨m,C⟩:=OC;unfold keyOf;rw[Tryz.underlying54];simp only[keyTD,Value.formed,Tryz.underlying54,cellsD,C];simp[Program.keyLits,Tryz.underlying54,Tryz.underlying52,cellsD,sP,wf_u64 h.1,wf_u64 h.2,Value.cells,List.range_succ]
 obtain⟨l,B⟩:=this;unfold Ef;rw[B]; rfl
theorem su{d':Int×Int}(h:OkD d)(B:OkD d')(e:Ef d=Ef d'):d=d':=by
 have C:=fK h;have A:=fK B;rw[<-e] at A;have:=Ki.inj C A;injection this with this
 injection this with this
 simp at this;exact Prod.ext this.1 this.2
def pO(b n:Nat)(M:Int×Int->Bool)(W:World):Prop:=
 ∃D:DataW Unit,W.ownsMap Tryz.prog 54 (plainElem Tryz.prog 4) b n D/\∀d,OkD d->D.atKey (Ef d) (.lit (.bool false))=.lit (.bool (M d))
theorem pO.made(W:World):pO W.heap.size 0 (fun _=>false) (W.alloc (.map #[] 0)):=⟨.map [],World.ownsMap_made _ _ _ _,fun d _=>WideAt.atKey_none _ (fun p A=>by simp at A)⟩
theorem pO.lt(h:pO b n M W):b<W.heap.size:=by obtain⟨D,A,_⟩:=h; exact A.lt
theorem pO.kept(h:pO b n M W)(E:W.grownBy W' row)(A:some b≠row):pO b n M W':=by obtain⟨D,B,C⟩:=h; exact⟨D,B.kept E A,C⟩
theorem pO.alloc(h:pO b n M W)(o:Obj):pO b n M (W.alloc o):=by obtain⟨D,A,B⟩:=h; exact⟨D,A.alloc o,B⟩
theorem pO.below(h:pO b n M W)(A:PM W W'):pO b n M W':=h.kept (row:=none) ⟨A.os,A.tape,A.output,A.size,fun k B _=>A.block k B⟩ (by simp)
theorem Dy(W:World):(zeroValue 4).run Tryz.prog W=.ok (.bool false) W:=by kernel_rfl
theorem oN{z:DataW Unit×List MemPlace}(h:plainElem Tryz.prog 4 v=some z):∃a,v=.bool a/\z=(.lit (.bool a),[]):=by
 unfold plainElem at h;rw[Tryz.underlying4] at h;cases v <;> simp at h
 exact⟨_,rfl,h.symm⟩
theorem pO.look(h:pO b n M W)(E:OkD (x,y)):(Instr.lookup 105 (.map (some b)) (.agg #[.int .u64 x,.int .u64 y]) false).run Tryz.prog W=.ok (.bool (M (x,y))) W:=by
 obtain⟨D,F,G⟩:=h;obtain⟨v,ps,C,I⟩:=F.lookup Ki Tryz.underlying105 (Dy W) (plainElem_bool (H:=Unit) Tryz.underlying4 false) (fK E);obtain⟨a,rfl,B⟩:=oN I;rw[G _ E] at B;simp only[Prod.mk.injEq] at B;injection B.1 with B
 injection B with B
 rw[C,B]
theorem pO.put(h:pO b n M W)(E:OkD (x,y))(K:(n:Int)<=1000000000):
  ∃W',(Instr.mapUpdate 105 (.map (some b)) (.agg #[.int .u64 x,.int .u64 y]) (.bool true)).run Tryz.prog W=.ok () W'/\pO b (n+1) (fun d=>M d||decide (d=(x,y))) W'/\W.grownBy W' (some b):=by
 obtain⟨D,F,G⟩:=h;obtain⟨W',C,J,I⟩:=F.update Ki Tryz.underlying105 (by unfold maxLen; omega) (fK E) (plainElem_bool (H:=Unit) Tryz.underlying4 true);refine⟨W',C,⟨_,J,fun d B=>?_⟩,I⟩;by_cases e:d=(x,y)
 ·subst e
  rw[Maps.atKey_put_same F.isMap (Ki.key (fK E))];simp
 ·rw[Maps.atKey_put_other (fun h=>e (su B E h)),G _ B]
  simp[e]
theorem Mi:OkD (0,0):=⟨⟨by decide,by decide⟩,by decide,by decide⟩
def gG(o:Ob):Qd:=if(aR o).2≠0 then[] else o.ents.map (·.d)++(if o.kind=3 then o.tree::o.pars else[])
def Oa(w:World)(ds:Qd)(e:Ending)(w':World):Prop:=∃a c,e=.returned (.slice a ds.length c)/\w'.ownsRow w.heap.size 54 2 (.slice a ds.length c) ds.length (aW ds)/\PM w w'
theorem ym(es:List Ent)(k:Nat)(h:k<es.length):(es.take (k+1)).map (·.d)=(es.take k).map (·.d)++[es[k].d]:=by
 rw[ai h,dJ]; rfl
theorem gz{xs:Qd}(B:W.ownsRow base 54 2 v xs.length (aW xs))(d1 d2:Int)(E:(xs.length:Int)<=100000000)(C:base<=W.heap.size):
  ∃v' W',(Builtin.append_ #[24,24] 24 #[v,.slice (some ⟨W.heap.size,0,none⟩) 1 1]).run Tryz.prog (W.alloc (.cells #[.int .u64 d1,.int .u64 d2] 54))=.ok v' W'/\W'.ownsRow base 54 2 v' (xs++[(d1,d2)]).length (aW (xs++[(d1,d2)]))/\(W.alloc (.cells #[.int .u64 d1,.int .u64 d2] 54)).grownBy W' v.ownBlock/\(v'.ownBlock=v.ownBlock\/v'.ownBlock=some (W.heap.size+1)):=by
 have h:=dM (W.alloc (.cells #[.int .u64 d1,.int .u64 d2] 54)) base 24 v xs (B.alloc _) (some ⟨W.heap.size,0,none⟩) [(d1,d2)] 1 (fun i F=>by
  obtain rfl:i=0:=by simp at F; omega
  have D:=BK.new W #[.int .u64 d1,.int .u64 d2] 54;exact⟨_,0,rfl,D.lt,by rw[dG,D.cell]; rfl,by rw[dG,D.cell]; rfl⟩) (by simp; omega) (by simp; omega)
 simpa using h
theorem Iz(o:Ob)(ea:Qa)(ec:Nat)(pa:Qa)(pc:Nat)(w:World)(h:Dw w o ea ec pa pc)(K:ObB o):
  Qh 63 #[o.val ea ec pa pc] w (Oa w (gG o)):=by
 have HC:=Qf (fun W (hW:PM w W)=>wQ o ea ec pa pc W (h.below hW));obtain⟨R,U⟩:=Qe (gG o);rw[<-U];unfold gG at U;generalize (aR o).2=er at HC U;have B8:=K.elen;have C0:=K.plen;have B0:=Qf h.ents;have B5:=Qf h.pars;clear h K;obtain⟨kind,data,ents,⟨t1,t2⟩,pars,author,time,msg⟩:=o;simp only[Ob.val] at HC U B8 C0 B0 B5 ⊢;obtain⟨ne,B⟩:=Qe ents.length;obtain⟨np,A7⟩:=Qe pars.length;rw[<-B] at HC B8 ⊢;rw[<-A7] at HC C0 ⊢;have X:=Qf B;have B3:=Qf A7;clear B A7;obtain⟨cs,A6⟩:∃cs:Array Value,cs=#[.int .i64 kind,.string ⟨data.toArray⟩,.slice ea ne ec,.int .u64 t1,.int .u64 t2,.slice pa np pc,.string ⟨author.toArray⟩,.int .i64 time,.string ⟨msg.toArray⟩]:=⟨_,rfl⟩;have HX:=Qf (HC.o (w.alloc (.cells #[.int .i64 kind,.string ⟨data.toArray⟩,.slice ea ne ec,.int .u64 t1,.int .u64 t2,.slice pa np pc,.string ⟨author.toArray⟩,.int .i64 time,.string ⟨msg.toArray⟩] 59)) (ba w _));have B2:Qg (BK w.heap.size cs 59 (w.alloc (.cells #[.int .i64 kind,.string ⟨data.toArray⟩,.slice ea ne ec,.int .u64 t1,.int .u64 t2,.slice pa np pc,.string ⟨author.toArray⟩,.int .i64 time,.string ⟨msg.toArray⟩] 59))):=Qf (by rw[A6]; exact BK.new _ _ _);have H:=Qf A6;clear A6 HC;by_cases he:er=0
 ·subst he
  rw[if_neg (by simp)] at U;have HR:=Qf U;clear U;go_enter Tryz.func63,Tryz.ntmps63;go_wp2_with fail;have hx:=HX.o
  refine hx.mono ?_;clear hx HX
  rintro e u ⟨rfl,K⟩;have A3:Qg (BK w.heap.size cs 59 u):=Qf (B2.o.below K);have V:Qg (PM w u):=Qf ((ba w _).trans (K.mono (by simp)));have C1:w.heap.size+1<=u.heap.size:=by have:=K.size; simpa using this
  have c2:u.cell? ⟨w.heap.size,2,none⟩=some (.slice ea ne ec):=by rw[A3.o.cell,H.o]; rfl
  clear K B2;go_wp2_with fail;go_loopw [3,12] (fun v i wr=>∃k:Nat,k<=ne/\i=.int .i64 k/\w.heap.size+1<=wr.heap.size/\Qg (wr.ownsRow (w.heap.size+1) 54 2 v ((ents.take k).map (·.d)).length (aW ((ents.take k).map (·.d))))/\Qg (PM w wr)/\Qg (BK w.heap.size cs 59 wr)) (fun _ i _=>ne-(intOf i).toNat)
  case atStart=>exact⟨0,by omega,rfl,C1,Qf (World.ownsRow_nil _ _ _ _),V,A3⟩
  case round=>
   clear A3 V c2 C1;obtain⟨k,hk,rfl,D7,T,HB,HK⟩:=hrel;have N:((ents.take k).map (·.d)).length=k:=by rw[fC,aA]; have:=X.o; omega
   obtain⟨av,cv,rfl,L⟩:=aB T.out;by_cases D6:k<ne
   ·have h1:k<ents.length:=by have:=X.o; omega
    obtain⟨b0,o0,rfl,D5,q0,q1,q2,q3⟩:=(B0.o.below HB.out nr) k h1;have A4:=Qf (ym ents k h1);generalize ents[k]=en at q0 q1 q2 q3 A4;obtain⟨nm,dir,d1,d2⟩:=en;simp only at q0 q1 q2 q3 A4;obtain⟨u1,G⟩:=Qe (wr.alloc (.cells #[.string ⟨nm.toArray⟩,.bool dir,.int .u64 d1,.int .u64 d2] 164));have D1:u1.heap.size=wr.heap.size+1:=by rw[G]; simp
    have B4:Qg (u1.ownsRow (w.heap.size+1) 54 2 _ _ _):=Qf (by rw[G]; exact T.out.alloc _);have C:Qg (PM w u1):=Qf (by rw[G]; exact HB.out.alloc (by omega) _);have I:Qg (BK w.heap.size cs 59 u1):=Qf (by rw[G]; exact HK.out.alloc _);obtain⟨v',W',Q,O,Y,B7⟩:=gz B4.o d1 d2 (by omega) (by omega);have B:(Value.slice av ((ents.take k).map (·.d)).length cv).ownBlock≠some w.heap.size:=fun hh=>by have:=(T.out.lt _ hh).1; omega
    have D:Qg (W'.ownsRow (w.heap.size+1) 54 2 v' ((ents.take (k+1)).map (·.d)).length (aW ((ents.take (k+1)).map (·.d)))):=Qf (by rw[A4.o]; exact O);have A2:Qg (PM w W'):=Qf ((C.o.alloc (by omega) _).grown Y (by simp; omega) (fun j hj=>by have:=(T.out.lt _ hj).1; omega));have C8:Qg (BK w.heap.size cs 59 W'):=Qf ((I.o.alloc _).grow Y (fun j hj e=>B (by rw[hj,e])));have C2:w.heap.size+1<=W'.heap.size:=by have:=Y.size; simp at this; omega
    rw[D1,G] at Q;have A1:=Qf Q;clear Q O Y B7 G B4 C I N B;generalize ((ents.take k).map (·.d)).length=m at A1 L ⊢;go_wp2_with (at_builtin; refine Lib.wpList_append_run _ rfl _ _ _ _ rfl _ _ rfl rfl _ _ A1.o ?_);go_roundw
    case rel=>exact⟨k+1,by omega,by go_num,C2,D,A2,C8⟩
    case measure=>simp[intOf]; omega
   ·have M:ents.take k=ents:=ag (by have:=X.o; omega)
    rw[M] at T L N ⊢;clear M;have c0:wr.cell? ⟨w.heap.size,0,none⟩=some (.int .i64 kind):=by rw[HK.out.cell,H.o]; rfl
    by_cases h3:kind=3
    ·subst h3
     rw[if_pos rfl] at HR;have c3:wr.cell? ⟨w.heap.size,3,none⟩=some (.int .u64 t1):=by rw[HK.out.cell,H.o]; rfl
     have c4:wr.cell? ⟨w.heap.size,4,none⟩=some (.int .u64 t2):=by rw[HK.out.cell,H.o]; rfl
     obtain⟨v1,W1,S,E,Z,_⟩:=gz T.out t1 t2 (by omega) (by omega);have B:(Value.slice av (ents.map (·.d)).length cv).ownBlock≠some w.heap.size:=fun hh=>by have:=(T.out.lt _ hh).1; omega
     have C:Qg (PM w W1):=Qf ((HB.out.alloc (by omega) _).grown Z (by simp; omega) (fun j hj=>by have:=(T.out.lt _ hj).1; omega));have I:Qg (BK w.heap.size cs 59 W1):=Qf ((HK.out.alloc _).grow Z (fun j hj e=>B (by rw[hj,e])));have D3:w.heap.size+1<=W1.heap.size:=by have:=Z.size; simp at this; omega
     have c5:W1.cell? ⟨w.heap.size,5,none⟩=some (.slice pa np pc):=by rw[I.o.cell,H.o]; rfl
     obtain⟨v2,W2,F,P,B9,_⟩:=dM W1 (w.heap.size+1) 24 v1 _ E pa pars pc ((B5.o.below C.o nr).mono C.o.size) (by simp; have:=B3.o; have:=X.o; simp at N; omega) (by omega);have A2:Qg (PM w W2):=Qf (C.o.grown B9 C.o.size (fun j hj=>by have:=(E.lt _ hj).1; omega));rw[<-B3.o] at F;have J:=Qf S;have A5:=Qf F;have D:=Qf P;clear S F E P Z B9 I C N;have B6:R=ents.map (·.d)++[(t1,t2)]++pars:=by rw[HR.o]; simp
     have C9:=Qf B6;clear B6;generalize (ents.map (·.d)).length=m at J L ⊢;have tok1:True:=trivial;go_wp2_with (at_builtin; first | (have _t:=tok1; refine Lib.wpList_append_run _ rfl _ _ _ _ rfl _ _ rfl rfl _ _ J.o ?_; clear _t tok1) | (refine Lib.wpList_append_run _ rfl _ _ _ _ rfl _ _ rfl rfl _ _ A5.o ?_));obtain⟨a2,cap2,rfl,_⟩:=aB D.o;go_ret;rw[C9.o];exact⟨a2,cap2,rfl,mP D.o (by omega),A2.o⟩
    ·rw[if_neg h3,bG] at HR
     have e3:(kind==3)=false:=by simpa using h3
     clear h3 N;have D:=Qf T.out;rw[<-HR.o] at D ⊢;clear T;go_wp2_with fail;go_ret;exact⟨av,cv,rfl,mP D.o (by omega),HB.out⟩
 ·rw[if_pos he] at U
  have HR:=Qf U;have B:(er !=0)=true:=by simpa using he
  clear U he;go_enter Tryz.func63,Tryz.ntmps63;go_wp2_with fail;have hx:=HX.o
  refine hx.mono ?_;clear hx HX
  rintro e u ⟨rfl,K⟩;have V:Qg (PM w u):=Qf ((ba w _).trans (K.mono (by simp)));clear K;go_wp2_with fail;go_ret;rw[HR.o];exact⟨none,0,rfl,World.ownsRow_nil _ _ _ _,V.o⟩
theorem Gs(a:Qa)(ds:Qd)(c:Nat)(w:World)(h:dE w.heap.size w a ds)(L:(ds.length:Int)<=1000000):
  Qh 62 #[.slice a ds.length c] w (Oa w ds):=by
 cases a with
 | none=>
  have I:ds=[]:=by
   cases ds with
   | nil=>rfl
   | cons x xs=>
    obtain⟨b,off,e,_⟩:=h 0 (by simp);cases e
  subst I;clear h;have K:∀W,(binOp .eql 24 (.slice none 0 c) (.slice none 0 0)).run Tryz.prog W=.ok (.bool true) W:=fun W=>by
   simp only[binOp];simp[Op.equal,Op.maxDepth,Lib.run_equalIn_slice_nil W 9999 24 54 none 0 c 0 0 Tryz.underlying24]
  go_enter Tryz.func62,Tryz.ntmps62;go_wp2_with fail;go_ret;exact⟨none,0,rfl,World.ownsRow_nil _ _ _ _,bf _⟩
 | some ad=>
  obtain⟨v',W',B,C,G,_⟩:=dM (w.alloc (.cells #[] 54)) w.heap.size 24 (.slice (some ⟨w.heap.size,0,none⟩) 0 0) [] (World.ownsRow_made (size:=2) w #[] 0 nr (by decide) rfl) (some ad) ds c ((h.below (ba w _) nr).mono (by simp)) (by simp; omega) (by simp);have F:=Qf C;have H:Qg (PM w W'):=Qf ((ba w _).grown G (by simp) (fun k J=>by simp[Value.ownBlock] at J; omega));obtain⟨n,E⟩:=Qe ds.length;rw[<-E] at B ⊢;have D:=Qf B;clear B C G E h;have K:∀W,(binOp .eql 24 (.slice (some ad) n c) (.slice none 0 0)).run Tryz.prog W=.ok (.bool false) W:=fun W=>by
   simp only[binOp];simp[Op.equal,Op.maxDepth,Lib.run_equalIn_slice_nil W 9999 24 54 (some ad) n c 0 0 Tryz.underlying24]
  go_enter Tryz.func62,Tryz.ntmps62;go_wp2_with (at_builtin; refine Lib.wpList_append_run _ rfl _ _ _ _ rfl _ _ rfl rfl _ _ D.o ?_);obtain⟨a2,c2,rfl,_⟩:=aB F.o;go_ret;exact⟨a2,c2,rfl,F.o,H.o⟩
theorem AO{α:Type}{l m:List α}(B:l.length=m.length)(k:Nat)(h:l.take k=m.take k)(A:l.length<=k):l=m:=by
 rwa[ag A,ag (by omega)] at h
open Go.RowKit Go.Shelf Go.Sort
def NG(d:Int×Int):List Value:=[.int .u64 d.1,.int .u64 d.2]
def kV(ds:Qd):Qd:=ds.mergeSort fun x y=>!(ltOf eO) y x
theorem lJ(ds:Qd):(kV ds).Perm ds:=List.mergeSort_perm _ _
theorem swoD:SWO (ltOf eO) where
 irrefl x:=by unfold ltOf; rw[fO]; rfl
 trans x y z h1 h2:=by unfold ltOf at *; simp only[decide_eq_true_eq] at *; exact qA h1 h2
 ntrans x y z h1 h2:=by
  unfold ltOf at *
  simp only[decide_eq_false_iff_not] at *
  have g1:=bF x y;have g2:=bF y z;have g3:=bF x z;omega
theorem totD:∀x y,ltOf eO x y=false->ltOf eO y x=false->x=y:=by
 intro x y A B;unfold ltOf at *
 simp only[decide_eq_false_iff_not] at *
 have g1:=bF x y;have g2:=bF y x;exact Prod.ext (by omega) (by omega)
theorem LQ(blk off size:Nat)(w:World):CmpLays Tryz.prog 59 #[] NG 2 eO blk off size w:=
 fun _ _ _ _ x y=>yN x.1 x.2 y.1 y.2 _
theorem uK(ds:Qd):flatK NG 2 ds.toArray=(aW ds).toArray:=by
 apply Array.ext
 ·simp[dL]
 ·intro t B E
  have F:t<ds.length*2:=by simpa using B
  have C:=get_flatK NG 2 ds.toArray t (by simpa using F);rw[getElem!_pos _ t B] at C;rw[C];have D:t/2<ds.length:=by omega
  have e:(ds.toArray)[t/2]! = ds[t/2]:=by rw[getElem!_pos _ _ (by simpa using D)]; simp
  rw[e];obtain⟨d0,d1⟩:=lu ds (t/2) D;have A:(aW ds)[t]? = some ((aW ds).toArray[t]):=by
   have:t<(aW ds).length:=by simpa using E
   rw[List.getElem?_eq_getElem this]; simp
  generalize (aW ds).toArray[t]=z at A ⊢;rcases(by omega:t%2=0\/t%2=1) with h | h
  ·rw[h]
   rw[show t=t/2*2 by omega,d0] at A;rw[<-Option.some.inj A];rfl
  ·rw[h]
   rw[show t=t/2*2+1 by omega,d1] at A;rw[<-Option.some.inj A];rfl
theorem kU(ds:Qd):(kV ds).length=ds.length:=(lJ ds).length_eq
theorem Aj{n:Nat}{os:Array Obj}{cur:Array Value}{e:TypeId}{fr:Nat×Nat}(F:Array Value)(A:w.heap[g]? = some (.cells cur e fr)):
  (grow (putRow id (Go.Sort.ahead w n) g 0 F) os).heap[g]? = some (.cells (putCells id 0 F cur) e fr):=by
 have B:g<w.heap.size:=(Array.getElem?_eq_some_iff.1 A).1;rw[heap_grow_old _ _ (by simpa using B)];simp[putRow,mapBlock,Go.Sort.ahead,Array.getElem?_modify,A,onCells]
theorem uw(F:Array Value):w.grownBy (grow (putRow id (Go.Sort.ahead w n) g 0 F) os) (some g):=by
 refine⟨rfl,rfl,rfl,by simp,fun k B A=>?_⟩;rw[heap_grow_old _ _ (by simpa using B)];have:g≠k:=fun e=>A (by rw[e])
 simp[putRow,mapBlock,Go.Sort.ahead,Array.getElem?_modify,this]
theorem vK(cur:Array Value)(F:List Value)(h:F.length<=cur.size):(putCells id 0 F.toArray cur).toList.take F.length=F:=by
 apply List.ext_getElem?;intro j;by_cases A:j<F.length
 ·rw[List.getElem?_take_of_lt A,Array.getElem?_toList]
  simp[putCells,A,show j<cur.size by omega]
 ·rw[List.getElem?_take_eq_none (by omega),List.getElem?_eq_none (by omega)]
theorem zq(a:Qa)(ds:Qd)(c:Nat)(w:World)(Q:w.ownsRow base 54 2 (.slice a ds.length c) ds.length (aW ds))(W:(ds.length:Int)<=1000000000):
  Qh 64 #[.slice a ds.length c,.func (.func 59) #[] #[]] w fun e w'=>e=.returned (.tuple #[])/\w'.ownsRow base 54 2 (.slice a ds.length c) ds.length (aW (kV ds))/\w.grownBy w' (Value.slice a ds.length c).ownBlock:=by
 rcases Q.2 with⟨N,S⟩ | ⟨g,cap,cur,N,C,L,B,J,I,G⟩
 ·have U:ds=[]:=aU S
  subst U;have:=AnyF.slices_SortFunc_none Tryz.sortD a c (.func (.func 59) #[] #[]) w;refine Calls.mono this fun e w' ⟨M,K⟩=>⟨M,?_,?_⟩
  ·rw[K,show kV []=[] by simp[kV]]; exact Q
  ·rw[K]; exact⟨rfl,rfl,rfl,nr,fun _ _ _=>rfl⟩
 ·cases N
  have eg:∀args w,(callFunc 59 args).run Tryz.prog w=.ok (.enter 59 args) w:=enters_of Tryz.func59 (by kernel_rfl) rfl;have T:HoldsK NG 2 w g 0 ds.toArray:=by
   unfold HoldsK;rw[uK];intro j P;have E:j<(aW ds).length:=by simpa using P
   refine⟨?_,Lib.frozen_of_heap L _⟩;rw[Lib.cell_of_heap L,aZ];have O:(cur.toList.take (ds.length*2))[j]? = (aW ds)[j]?:=by rw[G]
   rw[List.getElem?_take_of_lt (by rw[dL] at E; exact E),Array.getElem?_toList] at O;rw[O,List.getElem?_eq_getElem E,getElem!_pos _ j P];simp
  have H:=AnyQ.slices_SortFunc_total Tryz.sortD 2 Tryz.isAgg54 Tryz.sizeOf54 NG (fun _=>rfl) (fun x v R=>by simp[NG] at R; rcases R with rfl | rfl <;> rfl) eO swoD 59 #[] g 0 c ds.toArray w eg (LQ g 0 _ w) T (Array.getElem?_eq_some_iff.1 L).1 (by simp; omega) totD;have D:Qh 64 #[.slice (some ⟨g,0,none⟩) ds.length c,.func (.func 59) #[] #[]] w _:=H;refine D.mono fun e w' ⟨M,n,os,K⟩=>⟨M,?_,?_⟩
  ·rw[K]
   unfold sortWorldK putRowK;have V:=kU ds;change (grow (putRow id (Go.Sort.ahead w n) g 0 (flatK NG 2 (kV ds).toArray)) os).ownsRow _ _ _ _ _ _;rw[uK];have F:(aW (kV ds)).length=ds.length*2:=by rw[dL,V]
   exact⟨F,.inr ⟨g,c,_,rfl,C,Aj _ L,B,J,by simp[putCells,I],by rw[<-F]; exact vK cur _ (by rw[F,I]; exact pK _ B)⟩⟩
  ·rw[K]
   unfold sortWorldK putRowK;exact uw _
def fI(xs:List Itm):Nat->Qd->Qd->Qd->Qd->Qd×Qd
 | 0,_,_,R,M=>(R,M)
 | f+1,op,met,R,M=>
  match op.getLast? with
  | none=>(R,M)
  | some d=>
   if d∈met then fI xs f op.dropLast met R M
   else if(dW xs d).2≠0 then fI xs f op.dropLast (d::met) R (M++[d])
   else fI xs f (op.dropLast++(gG (dW xs d).1).filter fun l=>!decide (l∈d::met)) (d::met) (R++[d]) M
def jC(xs:List Itm)(roots:Qd):Nat:=1000*xs.length+roots.length
def dh(xs:List Itm)(roots:Qd):Qd×Qd:=
 (kV (fI xs (jC xs roots) roots [(0,0)] [] []).1,kV (fI xs (jC xs roots) roots [(0,0)] [] []).2)
theorem wE(xs:List Itm)(f:Nat)(met R M:Qd):fI xs f [] met R M=(R,M):=by
 cases f <;> rfl
theorem wF{M:Qd}(h:d∈met):fI xs (f+1) (op++[d]) met R M=fI xs f op met R M:=by
 rw[fI]; simp[h]
theorem tN{M:Qd}(h:d∉met)(A:(dW xs d).2≠0):fI xs (f+1) (op++[d]) met R M=fI xs f op (d::met) R (M++[d]):=by
 rw[fI]; simp[h,A]
theorem wG{M:Qd}(h:d∉met)(A:(dW xs d).2=0):fI xs (f+1) (op++[d]) met R M=fI xs f (op++(gG (dW xs d).1).filter fun l=>!decide (l∈d::met)) (d::met) (R++[d]) M:=by
 rw[fI]; simp[h,A]
def mea(xs:List Itm)(op met:Qd):Nat:=1000*xs.countP (fun x=>!decide (x.d∈met))+op.length
theorem A9(xs:List Itm)(met:Qd)(d:Int×Int):xs.countP (fun x=>!decide (x.d∈d::met))<=xs.countP (fun x=>!decide (x.d∈met)):=by
 refine List.countP_mono_left (fun x _ h=>?_);simp at h ⊢;exact h.2
theorem JE{x:Itm}(A:x∈xs)(C:x.d∉met):xs.countP (fun y=>!decide (y.d∈x.d::met))+1<=xs.countP (fun y=>!decide (y.d∈met)):=by
 induction xs with
 | nil=>simp at A
 | cons y ys ih=>
  rw[List.countP_cons,List.countP_cons];rcases List.mem_cons.1 A with rfl | A
  ·have:=A9 ys met x.d
   simp[C] at this ⊢;omega
  ·have D:=ih A
   have:(if(!decide (y.d∈x.d::met))=true then 1 else 0)<=(if(!decide (y.d∈met))=true then 1 else 0):=by
    by_cases B:y.d∈met
    ·simp[B]
    ·simp[B]; split <;> omega
   omega
theorem oW(h:(dW xs d).2=0):∃x∈xs,x.d=d/\bI x.data=dW xs d:=by
 unfold dW at h ⊢;split at h
 ·rename_i y B
  split at h
  ·rename_i A
   exact⟨y,List.mem_of_getElem? B,A,by simp[A]⟩
  ·simp at h
 ·simp at h
theorem rZ(o:Ob):(gG o).length<=200:=by
 unfold gG;split
 ·simp
 ·rename_i E
  have h:=fA (kG (by simpa using E));have A:=h.1;have F:=eP A;by_cases C:o.kind=1\/o.kind=4
  ·rw[mh A C]; simp[obZ]; split <;> simp <;> omega
  ·by_cases D:o.kind=2
   ·have:=(nL (jO A D).2).1
    rw[if_neg (by omega)]; simp; exact this
   ·have B:o.kind=3:=by omega
    have G:=(kJ (iC A B).2).1;rw[(iC A B).1]; simp; omega
theorem Ec(h:(dW xs d).2=0):∀l∈gG (dW xs d).1,OkD l:=by
 obtain⟨x,_,_,E⟩:=oW h;have G:bI x.data=((dW xs d).1,0):=by rw[E,<-h]
 have C:=(kI G).2;intro l B;unfold gG at B;split at B
 ·simp at B
 ·rcases aD.1 B with A | A
  ·obtain⟨e,F,rfl⟩:=bV.1 A
   exact C.2.2 e F
  ·split at A
   ·rcases List.mem_cons.1 A with rfl | D
    ·exact C.1
    ·exact C.2.1 l D
   ·simp at A
theorem qm(xs:List Itm)(op met:Qd)(d:Int×Int):mea xs op met+1=mea xs (op++[d]) met:=by
 unfold mea; simp; omega
theorem yh(xs:List Itm)(op met:Qd)(d:Int×Int):mea xs op (d::met)+1<=mea xs (op++[d]) met:=by
 have:=A9 xs met d;unfold mea; rw[af]; simp only[az,aK]; omega
theorem yj{ls:Qd}(A:d∉met)(h:(dW xs d).2=0)(C:ls.length<=200):mea xs (op++ls) (d::met)+1<=mea xs (op++[d]) met:=by
 obtain⟨x,B,rfl,_⟩:=oW h;have:=JE B A;unfold mea; rw[af,af]; simp only[az,aK]; omega
theorem zY(xs:List Itm)(roots:Qd):mea xs roots [(0,0)]<=jC xs roots:=by
 have:xs.countP (fun x=>!decide (x.d∈[((0:Int),(0:Int))]))<=xs.length:=List.countP_le_length;unfold mea jC;omega
def Apart(u v:Value):Prop:=∀k,u.ownBlock=some k->v.ownBlock≠some k
theorem Apart.symm(h:Apart u v):Apart v u:=fun k A B=>h k B A
theorem Apart.nil(v:Value):Apart (.slice none 0 0) v:=fun k h=>by simp[Value.ownBlock] at h
theorem gF{e:TypeId}{xs:List Value}(h:W.ownsRow base e z u n xs)(A:Apart u v)(B:W.grownBy W' v.ownBlock):W'.ownsRow base e z u n xs:=
 h.kept B (by
  cases C:u.ownBlock with
  | none=>exact .inl rfl
  | some k=>exact .inr (fun e=>A k C e.symm))
theorem ig{e:TypeId}{v':Value}{N:Nat}{xs:List Value}(h:W.ownsRow base e z u n xs)(C:Apart u v)(A:v'.ownBlock=v.ownBlock\/v'.ownBlock=some N)(D:W.heap.size<=N):Apart u v':=by
 intro k B;rcases A with e | e
 ·rw[e]; exact C k B
 ·rw[e]
  intro e2;have:=(h.lt k B).2;have:=Option.some.inj e2;omega
structure fB (w W:World) (M:Int×Int->Bool) (nm:Nat) (vo vr vm:Value) (op R Ms:Qd):Prop where
 mp:pO w.heap.size nm M W
 oo:W.ownsRow (w.heap.size+1) 54 2 vo op.length (aW op)
 orr:W.ownsRow (w.heap.size+1) 54 2 vr R.length (aW R)
 om:W.ownsRow (w.heap.size+1) 54 2 vm Ms.length (aW Ms)
 a1:Apart vo vr
 a2:Apart vo vm
 a3:Apart vr vm
 bel:PM w W
section
variable {w W W':World} {M:Int×Int->Bool} {nm:Nat} {vo vr vm v':Value} {op R Ms:Qd}
theorem fB.lt(h:fB w W M nm vo vr vm op R Ms):w.heap.size+1<=W.heap.size:=h.mp.lt
theorem fB.below(h:fB w W M nm vo vr vm op R Ms)(A:PM W W'):fB w W' M nm vo vr vm op R Ms:=
 ⟨h.mp.below A,own_below h.oo A,own_below h.orr A,own_below h.om A,h.a1,h.a2,h.a3,h.bel.trans (A.mono (by have:=h.lt; omega))⟩
theorem fB.alloc(h:fB w W M nm vo vr vm op R Ms)(o:Obj):fB w (W.alloc o) M nm vo vr vm op R Ms:=h.below (ba _ _)
theorem fB.put(h:fB w W M nm vo vr vm op R Ms)(B:pO w.heap.size (nm+1) M' W')(A:W.grownBy W' (some w.heap.size)):fB w W' M' (nm+1) vo vr vm op R Ms:=
 ⟨B,bD h.oo A (by omega),bD h.orr A (by omega),bD h.om A (by omega),h.a1,h.a2,h.a3,bE h.bel A nr⟩
theorem lS{e:TypeId}{xs:List Value}(h:W.ownsRow base e z v n xs)(A:b<base):some b≠v.ownBlock:=fun e1=>by have:=(h.lt b e1.symm).1; omega
theorem fB.bel'{e:TypeId}{xs:List Value}(h:PM w W)(C:W.ownsRow base e z vo n xs)(D:w.heap.size<=base)(A:W.grownBy W' vo.ownBlock):PM w W':=h.grown A h.size (fun k B=>by have:=(C.lt k B).1; omega)
theorem fB.pushO(h:fB w W M nm vo vr vm op R Ms){op':Qd}(B:W'.ownsRow (w.heap.size+1) 54 2 v' op'.length (aW op'))(C:W.grownBy W' vo.ownBlock)(A:v'.ownBlock=vo.ownBlock\/v'.ownBlock=some W.heap.size):fB w W' M nm v' vr vm op' R Ms:=
 ⟨h.mp.kept C (lS h.oo (by omega)),B,gF h.orr h.a1.symm C,gF h.om h.a2.symm C,(ig h.orr h.a1.symm A nr).symm,(ig h.om h.a2.symm A nr).symm,h.a3,fB.bel' h.bel h.oo (by omega) C⟩
theorem fB.pushR(h:fB w W M nm vo vr vm op R Ms){R':Qd}(B:W'.ownsRow (w.heap.size+1) 54 2 v' R'.length (aW R'))(C:W.grownBy W' vr.ownBlock)(A:v'.ownBlock=vr.ownBlock\/v'.ownBlock=some W.heap.size):fB w W' M nm vo v' vm op R' Ms:=
 ⟨h.mp.kept C (lS h.orr (by omega)),gF h.oo h.a1 C,B,gF h.om h.a3.symm C,ig h.oo h.a1 A nr,h.a2,(ig h.om h.a3.symm A nr).symm,fB.bel' h.bel h.orr (by omega) C⟩
theorem fB.pushM(h:fB w W M nm vo vr vm op R Ms){M':Qd}(B:W'.ownsRow (w.heap.size+1) 54 2 v' M'.length (aW M'))(C:W.grownBy W' vm.ownBlock)(A:v'.ownBlock=vm.ownBlock\/v'.ownBlock=some W.heap.size):fB w W' M nm vo vr v' op R M':=
 ⟨h.mp.kept C (lS h.om (by omega)),gF h.oo h.a2 C,gF h.orr h.a3 C,B,h.a1,ig h.oo h.a2 A nr,ig h.orr h.a3 A nr,fB.bel' h.bel h.om (by omega) C⟩
theorem fB.pop{d1 d2:Int}(h:fB w W M nm vo vr vm (op++[(d1,d2)]) R Ms):∃g c,vo=.slice (some ⟨g,0,none⟩) (op.length+1) c/\op.length+1<=c/\W.cell? ⟨g,op.length*2,none⟩=some (.int .u64 d1)/\W.cell? ⟨g,op.length*2+1,none⟩=some (.int .u64 d2)/\
  fB w W M nm (.slice (some ⟨g,0,none⟩) op.length c) vr vm op R Ms:=by
 have H:=h.oo;rcases H.2 with⟨F,J⟩ | ⟨g,c,cur,F,D,K,B,E,G,A⟩
 ·simp at J
 ·rw[af,aI] at F B A
  subst F;have C:=lu (op++[(d1,d2)]) op.length (by simp);simp only[qK nr,Nat.sub_self,aS] at C;refine⟨g,c,rfl,B,?_,?_,⟨h.mp,?_,h.orr,h.om,h.a1,h.a2,h.a3,h.bel⟩⟩
  ·have:=H.cells (g:=g) rfl _ _ C.1; rwa[Go.WideShapes.add_plain,aZ] at this
  ·have:=H.cells (g:=g) rfl _ _ C.2; rwa[Go.WideShapes.add_plain,aZ] at this
  ·refine⟨dL op,.inr ⟨g,c,cur,rfl,D,K,by omega,E,G,?_⟩⟩
   have I:(cur.toList.take ((op.length+1)*2)).take (op.length*2)=aW op:=by
    rw[A,gK,<-dL op,List.take_left]
   rw[List.take_take,mM (by omega)] at I;exact I
end
theorem LF(g n c f:Nat)(h:f<=c)(B:0<c)(W:World):(Instr.slice 24 (.slice (some ⟨g,0,none⟩) n c) none (some (.int .i64 f)) none).run Tryz.prog W=.ok (.slice (some ⟨g,0,none⟩) f c) W:=by
 rw[run_slice_h (P:=Tryz.prog) W 24 (some ⟨g,0,none⟩) n c (by kernel_rfl) .i64 f (by omega) (by omega),DJ];simp[sliced,Result.andThen,Go.WideShapes.add_plain]
def Pw(w:World)(r:Qd×Qd)(e:Ending)(w':World):Prop:=
 ∃a c a' c',e=.returned (.tuple #[.slice a r.1.length c,.slice a' r.2.length c'])/\w'.ownsRow w.heap.size 54 2 (.slice a r.1.length c) r.1.length (aW r.1)/\w'.ownsRow w.heap.size 54 2 (.slice a' r.2.length c') r.2.length (aW r.2)/\PM w w'
theorem pO.eq(h:pO b n M W)(e:∀d,M d=M' d):pO b n M' W:=by
 have:M=M':=funext e;rw[<-this]; exact h
theorem OP(met:Qd)(e d:Int×Int):(decide (d∈met)||decide (d=e))=decide (d∈e::met):=by
 by_cases A:d=e <;> by_cases B:d∈met <;> simp[A,B]
theorem dZ.keptR{o:Ob}{ea:Qa}{ec:Nat}{pa:Qa}{pc:Nat}(h:dZ base W o ea ec pa pc)(A:W.grownBy W' row)(B:∀k,row=some k->k<base):dZ base W' o ea ec pa pc:=by
 cases row with
 | none=>exact h.below ⟨A.os,A.tape,A.output,A.size,fun k C=>A.block k C (by simp)⟩
 | some b=>exact h.kept A (B b rfl)
structure RL (xs:List Itm) (roots:Qd) (w wr:World) (k:Nat) (vo vr vm:Value) (op R Ms met:Qd) (nm:Nat):Prop where
 st:fB w wr (fun d=>decide (d∈met)) nm vo vr vm op R Ms
 eq:fI xs (jC xs roots) roots [(0,0)] [] []=fI xs k op met R Ms
 me:mea xs op met<=k
 nk:nm+k<=jC xs roots+1
 rk:R.length+Ms.length+k<=jC xs roots
 ok:∀d∈op,OkD d
theorem rG{α:Type}(F:α->Bool)(ls:List α)(j:Nat)(h:j<ls.length):(ls.take (j+1)).filter F=(ls.take j).filter F++(if F ls[j] then[ls[j]] else[]):=by
 rw[ai h,vX];congr 1;by_cases A:F ls[j]=true <;> simp[A]
def RX(xs:List Itm)(roots:Qd)(w:World)(k:Nat)(vr vm vo:Value)(wr:World):Prop:=∃op R Ms met nm,RL xs roots w wr k vo vr vm op R Ms met nm
theorem zH(a:Qa)(xs:List Itm)(c:Nat)(ra:Qa)(roots:Qd)(rc:Nat)(w:World)(hp:jQ w a xs c)(ha:Asc xs)(hr:dE w.heap.size w ra roots)(H7:∀d∈roots,OkD d)(J6:(xs.length:Int)<=5000)(J5:(roots.length:Int)<=10000):
  Qh 29 #[.slice a xs.length c,.slice ra roots.length rc] w (Pw w (dh xs roots)):=by
 have HG:=Qf (fun d1 d2 W (hW:PM w W)=>yw a xs c d1 d2 W (hp.below hW) ha);have F7:=Qf (fun W (hW:PM w W)=>Gs ra roots rc W ((hr.below hW nr).mono hW.size) (by omega));have L1:((jC xs roots:Nat):Int)<=5100000:=by unfold jC; omega
 have I5:=Qf H7;obtain⟨W1,C5,C0,Y⟩:=(pO.made w).put Mi (by omega);have G1:=Qf (C0.eq (M':=fun d=>decide (d∈[((0:Int),(0:Int))])) (fun d=>by simp));have A5:Qg (PM w W1):=Qf (bE (ba w _) Y nr);have J7:w.heap.size+1<=W1.heap.size:=by have:=Y.size; simpa using this
 have D5:=C5;have J3:=@run_makeMap Tryz.prog;have E4:=Qf (F7.o W1 A5.o);obtain⟨n,hn⟩:=Qe xs.length;obtain⟨rn,H9⟩:=Qe roots.length;rw[<-hn] at HG ⊢;rw[<-H9] at E4 ⊢;clear hp ha hr H7 C0 Y F7 D5 hn H9 J6 J5;go_enter Tryz.func29,Tryz.ntmps29;go_wp2_with fail;have hx:=E4.o
 refine hx.mono ?_;clear hx E4 C5
 rintro e W2 ⟨oa,oc,rfl,C4,V⟩;have Q:Qg (RX xs roots w (jC xs roots) (.slice none 0 0) (.slice none 0 0) (.slice oa roots.length oc) W2):=Qf
  ⟨roots,[],[],[(0,0)],1,⟨⟨G1.o.below V,mP C4 (by omega),World.ownsRow_nil _ _ _ _,World.ownsRow_nil _ _ _ _,(Apart.nil _).symm,(Apart.nil _).symm,Apart.nil _,A5.o.trans (V.mono (by omega))⟩,rfl,zY xs roots,by omega,by simp,I5.o⟩⟩
 clear C4 V G1 A5 J7 J3 W1;go_wp2_with fail;go_loopg [6,7,9] (jC xs roots) (fun k vr vm vo wr=>Qg (RX xs roots w k vr vm vo wr))
 case atStart=>exact Q
 case round=>
  clear Q;obtain⟨op,R,Ms,met,nm,H0⟩:=hrel.out;have C:=Qf H0;clear H0 hrel;rcases iI op with D4 | ⟨op',d,D4⟩
  ·subst D4
   have HE:Qg (dh xs roots=(kV R,kV Ms)):=Qf (by unfold dh; rw[C.o.eq,wE]);have L2:=C.o.rk;obtain⟨ao,co,rfl,_⟩:=aB C.o.st.oo;obtain⟨ar,cr,rfl,_⟩:=aB C.o.st.orr;obtain⟨am,cm,rfl,_⟩:=aB C.o.st.om;have G7:=Qf (zq ar R cr wr C.o.st.orr (by omega));go_wp2_with fail;have hx:=G7.o
   refine hx.mono ?_;clear hx G7
   rintro e x1 ⟨rfl,H4,Y⟩;have C3:=gF C.o.st.om C.o.st.a3.symm Y;have G8:=Qf (zq am Ms cm x1 C3 (by omega));have G3:=Qf H4;have A5:Qg (PM w x1):=Qf (fB.bel' C.o.st.bel C.o.st.orr (by omega) Y);have G6:=Qf C3;clear H4 Y C3;go_wp2_with fail;have hx:=G8.o
   refine hx.mono ?_;clear hx G8
   rintro e x2 ⟨rfl,H5,F0⟩;have G4:=Qf H5;have D7:=Qf (gF G3.o C.o.st.a3 F0);have F6:Qg (PM w x2):=Qf (fB.bel' A5.o G6.o (by omega) F0);clear H5 F0;have l1:=kU R;have l2:=kU Ms;have HF:Qg (Pw w (kV R,kV Ms) (.returned (.tuple #[.slice ar R.length cr,.slice am Ms.length cm])) x2):=Qf ⟨ar,cr,am,cm,by rw[l1,l2],by rw[l1]; exact mP D7.o (by omega),by rw[l2]; exact mP G4.o (by omega),F6.o⟩;clear l1 l2 G3 G4 D7 A5 F6 G6 C;go_wp2_with fail;go_ret2;rw[HE.o];exact HF.o
  ·rw[iJ] at D4
   subst D4;obtain⟨d1,d2⟩:=d;obtain⟨gk,rfl⟩:∃f,gk=f+1:=⟨gk-1,by
    have h1:=C.o.me;have h2:=qm xs op' met (d1,d2)
    omega⟩
   have E1:OkD (d1,d2):=C.o.ok _ (by simp);have B6:Qg (∀d∈op',OkD d):=Qf (fun d hd=>C.o.ok d (by simp[hd]));obtain⟨g,co,I1,I7,q0,q1,C6⟩:=C.o.st.pop;have L0:mea xs op' met+1<=gk+1:=by have h1:=C.o.me; have h2:=qm xs op' met (d1,d2); omega
   have L6:=C.o.nk;have J4:=C.o.rk;have E5:=Qf C.o.eq;have G2:=Qf C.o.me;obtain⟨m,hm⟩:=Qe op'.length;rw[<-hm] at I1 I7 q0 q1 C6;subst I1;obtain⟨ar,cr,rfl,_⟩:=aB C6.orr;obtain⟨am,cm,rfl,_⟩:=aB C6.om;have E9:=Qf C6;have L4:m<=5100000:=by
    have:op'.length<=mea xs op' met:=by unfold mea; omega
    omega
   have H8:=fun W=>LF g (m+1) co m (by omega) (by omega) W
   have K5:((m:Int)+1-1)=(m:Int):=by omega
   have L7:=E9.o.lt;obtain⟨u0,X⟩:=Qe (wr.alloc (.cells #[.int .u64 d1,.int .u64 d2] 54));have T:Qg (fB w u0 (fun d=>decide (d∈met)) nm (.slice (some ⟨g,0,none⟩) m co) (.slice ar R.length cr) (.slice am Ms.length cm) op' R Ms):=Qf (by rw[X]; exact E9.o.alloc _);have F8:Qg (BK wr.heap.size #[.int .u64 d1,.int .u64 d2] 54 u0):=Qf (by rw[X]; exact BK.new _ _ _);have A7:=T.o.mp.look E1;have HM:=Qf hm;clear C6 hm C;by_cases O:(d1,d2)∈met
   ·rw[decide_eq_true O,X] at A7
    have Q:Qg (RX xs roots w gk (.slice ar R.length cr) (.slice am Ms.length cm) (.slice (some ⟨g,0,none⟩) m co) (wr.alloc (.cells #[.int .u64 d1,.int .u64 d2] 54))):=Qf (by
     rw[<-X];exact⟨op',R,Ms,met,nm,T.o,by rw[E5.o,wF O],by omega,by omega,by omega,B6.o⟩)
    clear X O;go_wp2_with fail;go_roundg gk
    case measure=>omega
    case rel=>exact Q
   ·obtain⟨u1,I0,E0,F1⟩:=T.o.mp.put E1 (by omega)
    have C1:=E0.eq (M':=fun d=>decide (d∈(d1,d2)::met)) (fun d=>OP met (d1,d2) d);have A1:=Qf (T.o.put C1 F1);have A9:Qg (BK wr.heap.size #[.int .u64 d1,.int .u64 d2] 54 u1):=Qf (F8.o.grow1 F1 (by omega));have C8:=Qf (HG.o d1 d2 u1 A1.o.bel);rw[decide_eq_false O,X] at A7;rw[X] at I0;have E7:=Qf O;clear E0 C1 F1 X O T F8 E9;have b0:u1.cell? ⟨wr.heap.size,0,none⟩=some (.int .u64 d1):=by rw[A9.o.cell]; rfl
    have b1:u1.cell? ⟨wr.heap.size,1,none⟩=some (.int .u64 d2):=by rw[A9.o.cell]; rfl
    have B0:=Qf (fun h=>Ec (xs:=xs) (d:=(d1,d2)) h);have B8:=Qf (fun h=>tN (xs:=xs) (f:=gk) (op:=op') (R:=R) (M:=Ms) E7.o h);have B7:=Qf (fun h=>wG (xs:=xs) (f:=gk) (op:=op') (R:=R) (M:=Ms) E7.o h);have B3:=Qf (fun(ls:Qd) h hl=>yj (xs:=xs) (op:=op') (ls:=ls) E7.o h hl);generalize dW xs (d1,d2)=OE at C8 B0 B8 B7 B3;obtain⟨o,er⟩:=OE;simp only at C8 B0 B8 B7 B3;go_wp2_with fail;have hx:=C8.o
    refine hx.mono ?_;clear hx C8 A7 I0 H8 q0 q1
    rintro e u2 ⟨ea,ec,pa,pc,rfl,H6,V⟩;have D8:=Qf (A1.o.below V);have C9:=Qf (A9.o.below V);have L9:=V.size;have G5:=Qf H6;have L3:=A9.o.lt;obtain⟨kind,data,ents,⟨t1,t2⟩,pars,author,time,msg⟩:=o;simp only[Ob.val];obtain⟨u3,S⟩:=Qe (u2.alloc (.cells #[.int .i64 kind,.string ⟨data.toArray⟩,.slice ea ents.length ec,.int .u64 t1,.int .u64 t2,.slice pa pars.length pc,.string ⟨author.toArray⟩,.int .i64 time,.string ⟨msg.toArray⟩] 59));have I:Qg (fB w u3 _ _ _ _ _ _ _ _):=Qf (by rw[S]; exact D8.o.alloc _);have F9:Qg (BK wr.heap.size #[.int .u64 d1,.int .u64 d2] 54 u3):=Qf (by rw[S]; exact C9.o.alloc _);have E6:Qg (BK u2.heap.size #[.int .i64 kind,.string ⟨data.toArray⟩,.slice ea ents.length ec,.int .u64 t1,.int .u64 t2,.slice pa pars.length pc,.string ⟨author.toArray⟩,.int .i64 time,.string ⟨msg.toArray⟩] 59 u3):=Qf (by rw[S]; exact BK.new _ _ _);have B4:Qg (dZ u1.heap.size u3 _ _ _ _ _):=Qf (by rw[S]; exact G5.o.below (ba _ _));have I2:u3.heap.size=u2.heap.size+1:=by rw[S]; simp
    have k0:u2.cell? ⟨wr.heap.size,0,none⟩=some (.int .u64 d1):=by rw[C9.o.cell]; rfl
    have k1:u2.cell? ⟨wr.heap.size,1,none⟩=some (.int .u64 d2):=by rw[C9.o.cell]; rfl
    have p0:=fun z=>bP k0 z
    have p1:=fun z=>bP k1 z
    clear H6 V A9 C9 D8 G5 b0 b1;by_cases he:er=0
    ·subst he
     obtain⟨v',u4,G,E,K,H⟩:=gz I.o.orr d1 d2 (by omega) (by have:=I.o.lt; omega);have J:=Qf ((I.o.alloc (.cells #[.int .u64 d1,.int .u64 d2] 54)).pushR E K (by simpa using H));have F3:∀k,(Value.slice ar R.length cr).ownBlock=some k->k<u1.heap.size:=fun k hk=>(A1.o.orr.lt k hk).2
     have F:Qg (BK u2.heap.size #[.int .i64 kind,.string ⟨data.toArray⟩,.slice ea ents.length ec,.int .u64 t1,.int .u64 t2,.slice pa pars.length pc,.string ⟨author.toArray⟩,.int .i64 time,.string ⟨msg.toArray⟩] 59 u4):=Qf ((E6.o.alloc _).grow K (fun k hk e=>by have:=F3 k hk; omega));have B5:=Qf ((B4.o.below ((bf _).alloc nr (.cells #[.int .u64 d1,.int .u64 d2] 54))).keptR K F3);have A6:=Qf (Iz _ ea ec pa pc u4 B5.o.inn B5.o.bb);have H3:=rZ ⟨kind,data,ents,(t1,t2),pars,author,time,msg⟩;have B1:=Qf (B0.o rfl);have Z:=Qf (B7.o rfl);have D6:=Qf (fun(ls:Qd) hl=>B3.o ls rfl hl);rw[I2,S] at G;have D:=Qf G;simp only[Ob.val] at A6;generalize gG ⟨kind,data,ents,(t1,t2),pars,author,time,msg⟩=ls at A6 H3 B1 Z;clear G E K H S I F9 E6 B4 B8 B7 B3 B0 B5 F3 A1;generalize ents.length=ne at D A6 F ⊢;generalize pars.length=np at D A6 F ⊢;have o0:u4.cell? ⟨u2.heap.size,0,none⟩=some (.int .i64 kind):=by rw[F.o.cell]; rfl
     have o1:u4.cell? ⟨u2.heap.size,1,none⟩=some (.string ⟨data.toArray⟩):=by rw[F.o.cell]; rfl
     have o2:u4.cell? ⟨u2.heap.size,2,none⟩=some (.slice ea ne ec):=by rw[F.o.cell]; rfl
     have o3:u4.cell? ⟨u2.heap.size,3,none⟩=some (.int .u64 t1):=by rw[F.o.cell]; rfl
     have o4:u4.cell? ⟨u2.heap.size,4,none⟩=some (.int .u64 t2):=by rw[F.o.cell]; rfl
     have o5:u4.cell? ⟨u2.heap.size,5,none⟩=some (.slice pa np pc):=by rw[F.o.cell]; rfl
     have o6:u4.cell? ⟨u2.heap.size,6,none⟩=some (.string ⟨author.toArray⟩):=by rw[F.o.cell]; rfl
     have o7:u4.cell? ⟨u2.heap.size,7,none⟩=some (.int .i64 time):=by rw[F.o.cell]; rfl
     have o8:u4.cell? ⟨u2.heap.size,8,none⟩=some (.string ⟨msg.toArray⟩):=by rw[F.o.cell]; rfl
     have E8:Qg (R.length+1=(R++[(d1,d2)]).length):=Qf (by simp);generalize I6:R++[(d1,d2)]=R' at J Z E8;clear I6;generalize R.length=nR at D J4 E8 ⊢;obtain⟨ar',cr',rfl,_⟩:=aB J.o.orr;go_wp2_with (at_builtin; refine Lib.wpList_append_run _ rfl _ _ _ _ rfl _ _ rfl rfl _ _ D.o ?_);have hx:=A6.o
     refine hx.mono ?_;clear hx A6 D p0 p1 k0 k1
     rintro e u5 ⟨la,lc,rfl,C2,H1⟩;have D9:=Qf (J.o.below H1);have D0:=Qf C2;have E3:Qg (Apart (.slice (some ⟨g,0,none⟩) m co) (.slice la ls.length lc)):=Qf (fun k h1 h2=>by have:=(J.o.oo.lt k h1).2; have:=(C2.lt k h2).1; omega);obtain⟨B,hB⟩:=Qe u4.heap.size;rw[<-hB] at D0;obtain⟨nl,F2⟩:=Qe ls.length;rw[<-F2] at H3 D0 E3 ⊢;have D1:=Qf F2;clear C2 H1 o0 o1 o2 o3 o4 o5 o6 o7 o8 F J hB F2;go_wp2_with fail;go_loopw [9,58] (fun v i wx=>∃j:Nat,j<=nl/\i=.int .i64 j/\Qg (fB w wx (fun d=>decide (d∈(d1,d2)::met)) (nm+1) v (.slice ar' R'.length cr') (.slice am Ms.length cm) (op'++(ls.take j).filter fun l=>!decide (l∈(d1,d2)::met)) R' Ms)/\Qg (wx.ownsRow B 54 2 (.slice la nl lc) nl (aW ls))/\Qg (Apart v (.slice la nl lc))) (fun _ i _=>nl-(intOf i).toNat)
     case atStart=>exact⟨0,by omega,rfl,by simpa using D9,D0,E3⟩
     case round=>
      clear D9 D0 E3;obtain⟨j,hj,rfl,U,B2,A4⟩:=hrel;have D3:(op'++(ls.take j).filter fun l=>!decide (l∈(d1,d2)::met)).length<=5200000:=by
       rw[af];have h1:=List.length_filter_le (fun l=>!decide (l∈(d1,d2)::met)) (ls.take j);have h2:(ls.take j).length<=j:=List.length_take_le _ _;have h3:=HM.o;omega
      obtain⟨av,cv,rfl,D2⟩:=aB U.out.oo;by_cases I9:j<nl
      ·have h1:j<ls.length:=by rw[<-D1.o]; exact I9
       have H2:dE wr.heap.size wr la ls:=kr D1.o B2.out;obtain⟨b0,o0,rfl,K9,q0,q1⟩:=H2 j h1;have A8:=Qf (rG (fun l=>!decide (l∈(d1,d2)::met)) ls j h1);have E2:=B1.o _ (ak h1);generalize ls[j]=lk at q0 q1 A8 E2;obtain⟨l1,l2⟩:=lk;simp only at q0 q1;have L:=Qf (U.out.alloc (.cells #[.int .u64 l1,.int .u64 l2] 54));have A0:=Qf (B2.out.alloc (.cells #[.int .u64 l1,.int .u64 l2] 54));have A7:=L.o.mp.look E2;have L8:=U.out.lt;have K1:(j:Int)<(nl:Int):=by omega
       clear H2;by_cases P:(l1,l2)∈(d1,d2)::met
       ·rw[decide_eq_true P] at A7
        have hF:(op'++(ls.take j).filter fun l=>!decide (l∈(d1,d2)::met))=op'++(ls.take (j+1)).filter fun l=>!decide (l∈(d1,d2)::met):=by rw[A8.o,if_neg (by simp[P]),bG]
        have A2:Qg (fB w (wr.alloc (.cells #[.int .u64 l1,.int .u64 l2] 54)) (fun d=>decide (d∈(d1,d2)::met)) (nm+1) (.slice av (op'++(ls.take j).filter fun l=>!decide (l∈(d1,d2)::met)).length cv) (.slice ar' R'.length cr') (.slice am Ms.length cm) (op'++(ls.take (j+1)).filter fun l=>!decide (l∈(d1,d2)::met)) R' Ms):=Qf (by rw[<-hF]; exact L.o);clear L A8 P hF U B2;generalize (op'++(ls.take j).filter fun l=>!decide (l∈(d1,d2)::met)).length=nf at A2 A4 D2 D3 ⊢;go_wp2_with fail;go_roundw
        case rel=>exact⟨j+1,by omega,by go_num,A2,A0,A4⟩
        case measure=>simp[intOf]; omega
       ·rw[decide_eq_false P] at A7
        obtain⟨v2,x2,G,E,K,H⟩:=gz L.o.oo l1 l2 (by omega) (by simp; omega);have hF:(op'++(ls.take j).filter fun l=>!decide (l∈(d1,d2)::met))++[(l1,l2)]=op'++(ls.take (j+1)).filter fun l=>!decide (l∈(d1,d2)::met):=by rw[A8.o,if_pos (by simp only[Bool.not_eq_true',decide_eq_false_iff_not]; exact P),ay]
        rw[hF] at E;have A2:=Qf ((L.o.alloc (.cells #[.int .u64 l1,.int .u64 l2] 54)).pushO E K (by simpa using H));have G0:=Qf (gF (A0.o.alloc _) A4.out.symm K);have F5:=Qf (ig (N:=wr.heap.size+1+1) (A0.o.alloc (.cells #[.int .u64 l1,.int .u64 l2] 54)) A4.out.symm (by simpa using H) (by simp)).symm;rw[show(wr.alloc (.cells #[.int .u64 l1,.int .u64 l2] 54)).heap.size=wr.heap.size+1 by simp] at G;have D:=Qf G;clear G E K H hF L A0 A8 P U B2 A4;generalize (op'++(ls.take j).filter fun l=>!decide (l∈(d1,d2)::met)).length=nf at D D2 D3 ⊢;go_wp2_with (at_builtin; refine Lib.wpList_append_run _ rfl _ _ _ _ rfl _ _ rfl rfl _ _ D.o ?_);go_roundw
        case rel=>exact⟨j+1,by omega,by go_num,A2,G0,F5⟩
        case measure=>simp[intOf]; omega
      ·have B9:ls.take j=ls:=ag (by rw[<-D1.o]; omega)
       rw[B9] at U D2 D3 ⊢;have Q:Qg (RX xs roots w gk (.slice ar' R'.length cr') (.slice am Ms.length cm) (.slice av (op'++ls.filter fun l=>!decide (l∈(d1,d2)::met)).length cv) wr):=Qf
        ⟨_,R',Ms,(d1,d2)::met,nm+1,U.out,by rw[E5.o]; exact Z.o,by
         have h1:=D6.o (ls.filter fun l=>!decide (l∈(d1,d2)::met)) (by have:=List.length_filter_le (fun l=>!decide (l∈(d1,d2)::met)) ls; have:=D1.o; omega);have h2:=G2.o
         omega,by omega,by have:=E8.o; omega,fun d hd=>by
         rcases aD.1 hd with h | h
         ·exact B6.o d h
         ·exact B1.o d (List.mem_filter.1 h).1⟩
       clear U B2 A4 B9 Z D6;generalize (op'++ls.filter fun l=>!decide (l∈(d1,d2)::met)).length=nf at Q D2 D3 ⊢;go_wp2_with fail;go_roundg gk
       case measure=>omega
       case rel=>exact Q
    ·have L5:(er !=0)=true:=by simpa using he
     obtain⟨v',u4,G,E,K,H⟩:=gz I.o.om d1 d2 (by omega) (by have:=I.o.lt; omega);have J:=Qf ((I.o.alloc (.cells #[.int .u64 d1,.int .u64 d2] 54)).pushM E K (by simpa using H));have Q:Qg (RX xs roots w gk (.slice ar R.length cr) v' (.slice (some ⟨g,0,none⟩) m co) u4):=Qf
      ⟨op',R,Ms++[(d1,d2)],(d1,d2)::met,nm+1,J.o,by rw[E5.o]; exact B8.o he,by have h1:=yh xs op' met (d1,d2); have h2:=G2.o; omega,by omega,by simp; omega,B6.o⟩
     rw[I2,S] at G;have D:=Qf G;clear G E K H S he J I F9 E6 B4 B8 B7 B3 B0;generalize ents.length=ne at D ⊢;generalize pars.length=np at D ⊢;generalize Ms.length=nM at D ⊢;go_wp2_with (at_builtin; refine Lib.wpList_append_run _ rfl _ _ _ _ rfl _ _ rfl rfl _ _ D.o ?_);go_roundg gk
     case measure=>omega
     case rel=>exact Q
theorem wrapU_ok(x:Int):Ku (IntKind.u64.wrap x):=by
 rw[wrap_u64];unfold Ku;omega
theorem bits_ok(op:BinOp)(x y:Int):Ku (bits op .u64 x y):=by
 unfold bits;exact wrapU_ok _
theorem fold_ok{f:Int->UInt8->Int}(A:∀x c,Ku (f x c)):∀(l:Qb) (x:Int),Ku x->Ku (l.foldl f x)
 | [],_,h=>h
 | c::l,x,_=>by rw[fE]; exact fold_ok A l _ (A x c)
theorem digS_ok(l:Qb):OkD (iY l):=by
 unfold iY;split
 ·exact⟨⟨by decide,by decide⟩,by decide,by decide⟩
 ·exact⟨fold_ok (fun x c=>wrapU_ok _) l _ ⟨by decide,by decide⟩,fold_ok (fun x c=>bits_ok _ _ _) l _ ⟨by decide,by decide⟩⟩
open Go.ChangeShapes Go.WideShapes Go.ChangeAt Go.RowKit Go.Deep
section
variable {H:Type} {enc:TypeId×Value->H} {W:World}
end
theorem NF(d:Nat)(x y x' y':Int)(W:World):(Op.equalIn (d+2) 54 (.agg #[.int .u64 x,.int .u64 y]) (.agg #[.int .u64 x',.int .u64 y'])).run Tryz.prog W=.ok (x==x'&&y==y') W:=by
 obtain⟨i0,B,_,hs,_⟩:=info_parts CG;have h:=run_equalIn_array W (d+1) #[.int .u64 x,.int .u64 y] #[.int .u64 x',.int .u64 y'] Tryz.underlying54 B;rw[sP,show List.range 2=[0,1] from rfl] at h;rw[h];have p0:∀(a b:Int) (V:World),(Go.part 52 #[.int .u64 a,.int .u64 b] (0*1)).run Tryz.prog V=.ok (.int .u64 a) V:=fun a b V=>run_part_plain V lM rfl
 have p1:∀(a b:Int) (V:World),(Go.part 52 #[.int .u64 a,.int .u64 b] (1*1)).run Tryz.prog V=.ok (.int .u64 b) V:=fun a b V=>run_part_plain V lM rfl
 have q:∀(a b:Int) (V:World),(Op.equalIn (d+1) 52 (.int .u64 a) (.int .u64 b)).run Tryz.prog V=.ok (a==b) V:=fun a b V=>run_equalIn_int V d _ _ _ a b Tryz.underlying52
 simp only[Op.eqItems,Sem.run_bind,p0,q,Result.andThen_ok];have p1':∀(a b:Int) (V:World),(Go.part 52 #[.int .u64 a,.int .u64 b] 1).run Tryz.prog V=.ok (.int .u64 b) V:=p1;by_cases C:x=x' <;> by_cases D:y=y' <;> simp[C,D,p1',q]
theorem Nl(x1 x2 y1 y2:Int)(s t:ByteArray)(W:World):(binOp .neq 56 (.agg #[.int .u64 x1,.int .u64 x2,.string s]) (.agg #[.int .u64 y1,.int .u64 y2,.string t])).run Tryz.prog W=.ok (.bool (!((x1==y1&&x2==y2)&&s.toList==t.toList))) W:=by
 rw[run_neq_struct,run_equalIn_struct W 9999 56 _ _ (by kernel_rfl) (by kernel_rfl)];have B : (Tryz.prog.fieldsOf 56).toList=[{ name := "Digest", type:=54, offset:=0, embedded:=false, tag := "", pkgPath := "", byteOffset:=0 }, { name := "Data", type:=9, offset:=2, embedded:=false, tag := "", pkgPath := "", byteOffset:=16 }]:=by kernel_rfl
 rw[B];have p0:∀(a b:Int) (r:ByteArray) (V:World),(Go.part 54 #[.int .u64 a,.int .u64 b,.string r] 0).run Tryz.prog V=.ok (.agg #[.int .u64 a,.int .u64 b]) V:=fun a b r V=>by kernel_rfl
 have p2:∀(a b:Int) (r:ByteArray) (V:World),(Go.part 9 #[.int .u64 a,.int .u64 b,.string r] 2).run Tryz.prog V=.ok (.string r) V:=fun a b r V=>by kernel_rfl
 have q0:=fun V=>NF 9997 x1 x2 y1 y2 V
 have q1:=fun V=>run_equalIn_string (P:=Tryz.prog) V 9998 9 s t Tryz.underlying9
 simp only[Op.eqFields,Sem.run_bind,Sem.run_ite,p0,p2,q0,q1,Result.andThen_ok];cases C:(x1==y1&&x2==y2) <;> cases D:(s.toList==t.toList) <;> simp
theorem PE(a b:Qa)(ds es:List Itm)(c c':Nat)(w:World)(h:Its w.heap.size w a ds)(V:Its w.heap.size w b es)(hn:(ds.length:Int)<=1000000000)(T:(es.length:Int)<=1000000000):
  Qh 20 #[.slice a ds.length c,.slice b es.length c'] w fun e w'=>e=.returned (.bool (decide (ds=es)))/\PM w w':=by
 obtain⟨R,S⟩:∃R,R=decide (ds=es):=⟨_,rfl⟩;rw[<-S];have P:=Qf S;have H:=Qf h;have Z:=Qf V;obtain⟨n,E⟩:=Qe ds.length;obtain⟨m,D⟩:=Qe es.length;rw[<-E] at hn ⊢;rw[<-D] at T ⊢;have M:=Qf E;have O:=Qf D;clear h V E D S;by_cases B:n=m
 ·subst B
  have e1:((n:Int) !=(n:Int))=false:=by simp
  go_enter Tryz.func20,Tryz.ntmps20;go_wp2_with fail;go_loopw [5] (fun i wr=>∃k:Nat,k<=n/\i=.int .i64 k/\Qg (PM w wr)/\Qg (ds.take k=es.take k)) (fun i _=>n-(intOf i).toNat)
  case atStart=>exact⟨0,by omega,rfl,Qf (bf _),Qf rfl⟩
  case round=>
   obtain⟨k,hk,rfl,F,N⟩:=hrel;have A4:=F.out.size;by_cases A2:k<n
   ·have X:k<ds.length:=by have:=M.o; omega
    have Y:k<es.length:=by have:=O.o; omega
    obtain⟨b0,o0,rfl,A0,q0,q1,q2⟩:=(H.o.below F.out nr) k X;obtain⟨b1,o1,rfl,A1,r0,r1,r2⟩:=(Z.o.below F.out nr) k Y;have J:=Qf (fun(h:ds[k]=es[k])=>qO N.out X Y h);have G:=Qf (fun(h:ds[k]≠es[k]) (e:ds=es)=>h (by subst e; rfl));generalize ds[k]=x at q0 q1 q2 J G;generalize es[k]=y at r0 r1 r2 J G;obtain⟨⟨x1,x2⟩,xd⟩:=x;obtain⟨⟨y1,y2⟩,yd⟩:=y;simp only at q0 q1 q2 r0 r1 r2;have U:=fun W=>Nl x1 x2 y1 y2 ⟨xd.toArray⟩ ⟨yd.toArray⟩ W
    have K:(⟨xd.toArray⟩:ByteArray).toList=xd:=by rw[Lib.toList_data]
    have L:(⟨yd.toArray⟩:ByteArray).toList=yd:=by rw[Lib.toList_data]
    rw[K,L] at U;clear K L;cases C:((x1==y1&&x2==y2)&&xd==yd) with
    | true=>
     rw[C] at U;have Q:=Qf (J.o (by
      simp only[Bool.and_eq_true,beq_iff_eq] at C;rw[C.1.1,C.1.2,C.2]))
     clear C J G N;go_wp2_with fail;go_quiet (fail);go_wp2_with fail;go_roundw
     case rel=>exact⟨k+1,by omega,by go_num,Qf (below_drewN F.out _),Q⟩
     case measure=>simp[intOf]; omega
    | false=>
     rw[C] at U;have I:Qg (R=false):=Qf (by
      rw[P.o];refine decide_eq_false (G.o ?_);intro h;simp only[Itm.mk.injEq,Prod.mk.injEq] at h;simp[h.1.1,h.1.2,h.2] at C)
     clear C J G N;go_wp2_with fail;go_quiet (fail);go_wp2_with fail;go_ret;exact⟨by rw[I.o]; rfl,below_drewN F.out _⟩
   ·have I:Qg (R=true):=Qf (by
     rw[P.o];exact decide_eq_true (AO (by rw[<-M.o,<-O.o]) k N.out (by rw[<-M.o]; omega)))
    go_wp2_with fail;go_ret;exact⟨by rw[I.o]; rfl,F.out⟩
 ·have e1:((n:Int) !=(m:Int))=true:=by simp; omega
  have e2:(n !=m)=true:=by simpa using B
  have I:Qg (R=false):=Qf (by
   rw[P.o];refine decide_eq_false (fun e=>B ?_);rw[M.o,O.o,e])
  clear B;go_enter Tryz.func20,Tryz.ntmps20;go_wp2_with fail;go_ret;exact⟨by rw[I.o]; rfl,bf _⟩
theorem yU{α:Type}{p:α->Bool}{l:List α}{k:Nat}(h:k<l.length)(A:(l.take k).any p=false)(B:p l[k]=false):(l.take (k+1)).any p=false:=by
 rw[ai h,List.any_append,A];simp[B]
def OU(xs:List Itm)(l:Qd):List Itm:=xs.filter fun x=>decide (x.d∈l)
open Go.RowKit
theorem Hu(L:Qb)(w:World)(hs:(L.length:Int)<=140737488355328):
  Qh 76 #[.string ⟨L.toArray⟩] w fun e w'=>e=.returned (.agg #[.int .u64 (iY L).1,.int .u64 (iY L).2])/\PM w w':=by
 have I:Qg (iY L=if L.foldl BM 14695981039346656037=0/\L.foldl CY 14695981039346656037=0 then(0,1) else(L.foldl BM 14695981039346656037,L.foldl CY 14695981039346656037)):=Qf rfl;obtain⟨R1,R2,Q⟩:∃R1 R2,iY L=(R1,R2):=⟨_,_,rfl⟩;rw[Q] at I ⊢;clear Q;obtain⟨f,E⟩:∃f:Qb->Int,f=fun l=>l.foldl BM 14695981039346656037:=⟨_,rfl⟩
 obtain⟨g,F⟩:∃g:Qb->Int,g=fun l=>l.foldl CY 14695981039346656037:=⟨_,rfl⟩
 have R:Qg (∀k (h:k<L.length),f (L.take (k+1))=BM (f (L.take k)) L[k]):=Qf (fun k h=>by rw[E]; exact gY _ _ _ _ h);have S:Qg (∀k (h:k<L.length),g (L.take (k+1))=CY (g (L.take k)) L[k]):=Qf (fun k h=>by rw[F]; exact gY _ _ _ _ h);have J:Qg (f (L.take 0)=14695981039346656037):=Qf (by rw[E]; rfl);have K:Qg (g (L.take 0)=14695981039346656037):=Qf (by rw[F]; rfl);have B:Qg ((R1,R2)=if f L=0/\g L=0 then(0,1) else(f L,g L)):=Qf (by rw[E,F]; exact I.o);clear E F I;go_enter Tryz.func76,Tryz.ntmps76;go_wp2_with fail;go_loop [3,4,5] (fun n m i=>∃(k:Nat) (x y:Int),k<=L.length/\i=.int .i64 k/\n=.int .u64 x/\m=.int .u64 y/\Qg (x=f (L.take k))/\Qg (y=g (L.take k))) (fun _ _ i=>L.length-(intOf i).toNat)
 case atStart=>exact⟨0,_,_,by omega,rfl,rfl,rfl,Qf J.o.symm,Qf K.o.symm⟩
 case round=>
  obtain⟨k,x,y,V,rfl,rfl,rfl,O,P⟩:=hrel;by_cases D:k<L.length
  ·have N:Qg (f (L.take (k+1))=BM x L[k]):=Qf (by rw[O.out]; exact R.o k D)
   have M:Qg (g (L.take (k+1))=CY y L[k]):=Qf (by rw[P.out]; exact S.o k D);go_wp2_with fail;go_round
   case rel=>exact⟨k+1,_,_,by omega,by go_num,rfl,rfl,Qf (by rw[N.o]; rfl),Qf (by rw[M.o]; rfl)⟩
   case measure=>simp[intOf]; omega
  ·have N:Qg (f L=x):=Qf (by rw[O.out,ag (by omega)])
   have M:Qg (g L=y):=Qf (by rw[P.out,ag (by omega)]);rw[N.o,M.o] at B;by_cases G:x=0
   ·subst G
    by_cases H:y=0
    ·subst H
     have C:Qg (R1=0/\R2=1):=Qf (by simpa using B.o);go_wp2_with fail;refine bodyPost_ret (v:=.agg #[.int .u64 0,.int .u64 1]) (by simp[results,Tryz.results76,go_sem]) rfl ⟨by rw[C.o.1,C.o.2],?_⟩;exact ba w _
    ·have C:Qg (R1=0/\R2=y):=Qf (by simpa[H] using B.o)
     have U:(y==0)=false:=by simpa using H
     clear H;go_wp2_with fail;refine bodyPost_ret (v:=.agg #[.int .u64 0,.int .u64 y]) (by simp[results,Tryz.results76,go_sem]) rfl ⟨by rw[C.o.1,C.o.2],?_⟩;exact ba w _
   ·have C:Qg (R1=x/\R2=y):=Qf (by simpa[G] using B.o)
    have T:(x==0)=false:=by simpa using G
    clear G;go_wp2_with fail;refine bodyPost_ret (v:=.agg #[.int .u64 x,.int .u64 y]) (by simp[results,Tryz.results76,go_sem]) rfl ⟨by rw[C.o.1,C.o.2],?_⟩;exact ba w _
def Cr(xs:List Itm):Bool:=decide (40<xs.length)||xs.any fun x=>decide (500<x.data.length)
theorem Ol(a:Qa)(xs:List Itm)(c:Nat)(w:World)(h:Its w.heap.size w a xs)(V:(xs.length:Int)<=9223372036854775807)(Q:∀x∈xs,(x.data.length:Int)<=9223372036854775807):
  Qh 36 #[.slice a xs.length c] w fun e w'=>e=.returned (.bool (Cr xs))/\w=w':=by
 obtain⟨R,C⟩:=Qe (Cr xs);rw[<-C];unfold Cr at C;have H:=Qf h;have T:=Qf Q;obtain⟨n,N⟩:=Qe xs.length;rw[<-N] at C V ⊢;have O:=Qf N;clear h Q N;by_cases F:(40:Int)<(n:Int)
 ·have d1:decide ((40:Int)<(n:Int))=true:=by simpa using F
  have D:Qg (R=true):=Qf (by rw[C,decide_eq_true (show 40<n by omega)]; simp);clear C;go_enter Tryz.func36,Tryz.ntmps36;go_wp2_with fail;go_ret;exact⟨by rw[D.o]; rfl,rfl⟩
 ·have d1:decide ((40:Int)<(n:Int))=false:=by simpa using F
  have b1:decide (40<n)=false:=by simp; omega
  have P:Qg (R=xs.any fun x=>decide (500<x.data.length)):=Qf (by rw[C,b1,Bool.false_or]);clear C b1;go_enter Tryz.func36,Tryz.ntmps36;go_wp2_with fail;go_loop [3] (fun i=>∃k:Nat,k<=n/\i=.int .i64 k/\Qg ((xs.take k).any (fun x=>decide (500<x.data.length))=false)) (fun i=>n-(intOf i).toNat)
  case atStart=>exact⟨0,by omega,rfl,Qf rfl⟩
  case round=>
   obtain⟨k,X,rfl,K⟩:=hrel;by_cases W:k<n
   ·have J:k<xs.length:=by have:=O.o; omega
    obtain⟨b0,o0,rfl,U,q0,q1,q2⟩:=H.o k J;have G:=T.o _ (ak J);have B:=Qf (fun M=>yU (p:=fun x:Itm=>decide (500<x.data.length)) J K.out M);have E:Qg (500<xs[k].data.length->R=true):=Qf (fun M=>by rw[P.o,List.any_eq_true]; exact⟨_,ak J,by simpa using M⟩);generalize xs[k]=x at q2 G B E;obtain⟨xd,dt⟩:=x;simp only at q2 G B E;clear q0 q1;have S:(k:Int)<(n:Int):=by omega
    by_cases I:(500:Int)<(dt.length:Int)
    ·have d2:decide ((500:Int)<(dt.length:Int))=true:=by simpa using I
     have D:Qg (R=true):=Qf (E.o (by omega));clear B E;go_wp2_with fail;go_ret;exact⟨by rw[D.o]; rfl,rfl⟩
    ·have d2:decide ((500:Int)<(dt.length:Int))=false:=by simpa using I
     have L:=Qf (B.o (by simp; omega));clear B E K;go_wp2_with fail;go_round
     case rel=>exact⟨k+1,by omega,by go_num,L⟩
     case measure=>simp[intOf]; omega
   ·have D:Qg (R=false):=Qf (by rw[P.o,<-ag (l:=xs) (i:=k) (by have:=O.o; omega)]; exact K.out)
    go_wp2_with fail;go_ret;exact⟨by rw[D.o]; rfl,rfl⟩
theorem NS(h:x<x'):eO (x,y) (x',y')=-1:=by
 have:=bF (x,y) (x',y');simp only at this;omega
theorem NT(h:x'<x):eO (x,y) (x',y')=1:=by
 have:=bF (x,y) (x',y');simp only at this;omega
theorem FB(x y x' y':Int)(w:World):Qh 77 #[.agg #[.int .u64 x,.int .u64 y],.agg #[.int .u64 x',.int .u64 y']] w fun e w'=>e=.returned (.int .i64 (eO (x,y) (x',y')))/\PM w w':=by
 obtain⟨R,K⟩:=Qe (eO (x,y) (x',y'));rw[<-K];have E:=Qf K;clear K;go_enter Tryz.func77,Tryz.ntmps77;go_wp2_with fail;go_loopw [5] (fun i wr=>∃k q:Nat,k<=2/\i=.int .i64 k/\wr=((w.alloc (.cells #[.int .u64 x,.int .u64 y] 54)).alloc (.cells #[.int .u64 x',.int .u64 y'] 54)).drewN q/\Qg ((1<=k->x=x')/\(2<=k->y=y'))) (fun i _=>2-(intOf i).toNat)
 case atStart=>exact⟨0,0,by omega,rfl,rfl,Qf ⟨by omega,by omega⟩⟩
 case round=>
  obtain⟨k,q,L,rfl,rfl,D⟩:=hrel;by_cases C:k=0
  ·subst C
   by_cases B:x<x'
   ·have d1:decide (x<x')=true:=by simpa using B
    have G:Qg (R=-1):=Qf (by rw[E.o,NS B]);clear B D E;go_wp2_with fail;go_quiet (fail);go_wp2_with fail;go_ret;exact⟨by rw[G.o]; rfl,below_drewN (below_drewN ((ba w _).alloc (by simp) _) _) _⟩
   ·have d1:decide (x<x')=false:=by simpa using B
    by_cases F:x'<x
    ·have d2:decide (x'<x)=true:=by simpa using F
     have G:Qg (R=1):=Qf (by rw[E.o,NT F]);clear B F D E;go_wp2_with fail;go_quiet (fail);go_wp2_with fail;go_quiet (fail);go_wp2_with fail;go_ret;exact⟨by rw[G.o]; rfl,below_drewN (below_drewN (below_drewN ((ba w _).alloc (by simp) _) _) _) _⟩
    ·have d2:decide (x'<x)=false:=by simpa using F
     have I:Qg (x=x'):=Qf (by omega);clear B F D;go_wp2_with fail;go_quiet (fail);go_wp2_with fail;go_quiet (fail);go_wp2_with fail;go_roundw
     case rel=>exact⟨1,_,by omega,by go_num,by first | rfl | (simp only[World.drewN_drewN]; rfl),Qf ⟨fun _=>I.o,by omega⟩⟩
     case measure=>simp[intOf]
  ·by_cases H:k=1
   ·subst H
    have J:=Qf (D.out.1 (by omega));by_cases B:y<y'
    ·have d1:decide (y<y')=true:=by simpa using B
     have G:Qg (R=-1):=Qf (by
      rw[E.o];have:=bF (x,y) (x',y');have:=J.o;simp only at *
      omega)
     clear B D E C;go_wp2_with fail;go_quiet (fail);go_wp2_with fail;go_ret;exact⟨by rw[G.o]; rfl,below_drewN (below_drewN ((ba w _).alloc (by simp) _) _) _⟩
    ·have d1:decide (y<y')=false:=by simpa using B
     by_cases F:y'<y
     ·have d2:decide (y'<y)=true:=by simpa using F
      have G:Qg (R=1):=Qf (by
       rw[E.o];have:=bF (x,y) (x',y');have:=J.o;simp only at *
       omega)
      clear B F D E C;go_wp2_with fail;go_quiet (fail);go_wp2_with fail;go_quiet (fail);go_wp2_with fail;go_ret;exact⟨by rw[G.o]; rfl,below_drewN (below_drewN (below_drewN ((ba w _).alloc (by simp) _) _) _) _⟩
     ·have d2:decide (y'<y)=false:=by simpa using F
      have I:Qg (y=y'):=Qf (by omega);clear B F D C;go_wp2_with fail;go_quiet (fail);go_wp2_with fail;go_quiet (fail);go_wp2_with fail;go_roundw
      case rel=>exact⟨2,_,by omega,by go_num,by first | rfl | (simp only[World.drewN_drewN]; rfl),Qf ⟨fun _=>J.o,fun _=>I.o⟩⟩
      case measure=>simp[intOf]
   ·obtain rfl:k=2:=by omega
    have G:Qg (R=0):=Qf (by rw[E.o,D.out.1 (by omega),D.out.2 (by omega),fO]);clear D E C H;go_wp2_with fail;go_ret;exact⟨by rw[G.o]; rfl,below_drewN ((ba w _).alloc (by simp) _) _⟩
