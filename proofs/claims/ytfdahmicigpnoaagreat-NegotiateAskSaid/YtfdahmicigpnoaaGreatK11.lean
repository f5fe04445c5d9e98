/- Joined texts: HiVi, HiDw, HiDx, HiSo, HiSr, HiAn, HiBt, HiBs. -/
import Derived.Test.YtfdahmicigpnoaaGreatK10
import Derived.Laws.EntriesVeiled
/- history.visit. -/
set_option maxRecDepth 100000
set_option maxHeartbeats 16000000
open Go.Lib (hid)
namespace Go.Proofs.YtfdahmicigpnoaaGreat
open Go.RowKit Go.Shelf
set_option linter.unusedVariables false
attribute [local go_sem] Oper.semAt_some
def GotV (xs:List Itm) (heads:List (Int × Int)) (w:World) (b:Nat) (e:Ending) (w':World):Prop:=
 e = .returned (.int .i64 (visS xs heads []).2)/\w.grownBy w' (some b)/\((visS xs heads []).2=0->∃ n A,n<=1000000/\VM xs w.heap.size b n (visS xs heads []).1 A w')
theorem wpListIn_append_run {F:Fence} {n:Nat} {P:Program} (w:World) {ops:Array Oper} {rest:List Oper} {o:Oper} {a:Act} {Q:Exit->Act->World->Prop} (hg:o.guard=none) (s x:Operand) (t tn:TypeId)
  (hop:o.op=Op.call { callee:=Callee.builtin Builtin.append,args:=#[s,x],argTypes:=#[t,tn] }) (vs vx:Value) (hs:a.eval s=vs) (hx:a.eval x=vx)
  (v':Value) (w':World) (hr:(Builtin.append_ #[t,tn] o.type #[vs,vx]).run P w = .ok v' w') (h:wpListIn F n P ops Q rest (a.put o.dst v') w'):wpListIn F n P ops Q (o :: rest) a w:=by
 refine wpListIn_plain hg fun K hK'=>?_
 unfold Oper.wpIn
 refine ⟨?_,?_⟩
 ·simp [Oper.about,hop,resolve,Target.leads,Sem.run_pure]
 ·rw [Oper.semAt_plain F _ _ (by rw [hop]; intro c hc'; cases hc')]
  simp [execOp,hop,resolve,invoke,builtin,hs,hx,hr,Result.andThen]
  exact hK' _ _ h
theorem grown_none {w W:World} (hb:Below w.heap.size w W) (row:Option Nat):w.grownBy W row:=⟨hb.os,hb.tape,hb.output,hb.size,fun k hk _=>hb.block k hk⟩
structure VI (xs:List Itm) (heads:List (Int × Int)) (w:World) (b ob:Nat) (met st:List (Int × Int)) (Ds:List Nat) (nm:Nat) (A:Int × Int->Option Addr × Nat) (v:Value) (k:Nat) (wr:World):Prop where
 sv:SV xs w b nm ob met st.reverse Ds A v wr
 eq:visS xs heads []=visS xs st met
 me:mea xs st met<=k
 nk:nm + k<=600000
 ok:∀ d ∈ st,OkD d
theorem VI.fin {xs:List Itm} {heads:List (Int × Int)} {w:World} {b ob:Nat} {met:List (Int × Int)} {Ds:List Nat} {nm:Nat} {A:Int × Int->Option Addr × Nat} {v:Value} {k:Nat} {wr W':World} (h:VI xs heads w b ob met [] Ds nm A v k wr) (hs:SV xs w b nm ob met [] [] A v W'):GotV xs heads w b (.returned (.int .i64 0)) W':=by
 have e:visS xs heads []=(met,0):=by rw [h.eq,visS_nil]
 unfold GotV
 rw [e]
 exact ⟨rfl,hs.gr,fun _=>⟨nm,A,by have:=h.nk; omega,hs.vm⟩⟩
def AxB (a:Act) (z:Int × Int × Int) (a':Act) (W:World):Prop:=∃ p,BK p #[.int .u64 z.2.1,.int .u64 z.2.2] 41 W/\a' = { tmps:=((a.tmps.setIfInBounds 56 (.int .i64 z.1)).setIfInBounds 57 (.agg #[.int .u64 z.2.1,.int .u64 z.2.2])).setIfInBounds 15 (.pointer (some ⟨p,0,none⟩)),defers:=[] }
theorem rf_box {g:Operand} {assign body:Code} {Q:Exit->Act->World->Prop} {a:Act} {w:World} {F:Fence} {n:Nat} {P:Program}
  (hro:F.round=none) (h1:1<=n) {gf:Nat} {lb:Array Value} (hg:a.eval g = .func (.func gf) #[] lb) (hFg:F.fn gf) (eg:∀ args w,(callFunc gf args).run P w = .ok (.enter gf args) w)
  {Kp:World->World->Prop} {S Sp:List (Int × Int × Int)->Prop} {N:Nat} (hseq:SeqStopsK F (n - 1) P gf lb (fun x:Int × Int × Int=>#[.int .i64 x.1,.agg #[.int .u64 x.2.1,.int .u64 x.2.2]]) Kp S Sp N w)
  (hKt:∀ {A B C:World},Kp A B->Kp B C->Kp A C) (hKb:∀ (W:World) (l:Nat) (o o':Obj),w.heap.size<=l->W.heap[l]? = some o->o.isCells=false->o.isWalk=false->Kp W (W.putObj l o'))
  (I:List (Int × Int × Int)->World->Prop) (hI:OwnFrom w.heap.size I) (h0:I [] w)
  (hassign:∀ (l:Nat) (pre:List (Int × Int × Int)) (x:Int × Int × Int) (W:World) (K:Act->World->Prop),I pre W->(∀ a' W',KeepsFrom w.heap.size W W'->Kp W W'->I pre W'->AxB a x a' W'->K a' W')->
   assign.wpIn (F.inRound l) (n - 1 - 1) P (Exit.then K (fun _ _ _=>False)) { tmps:=((#[56,57]:Array Tmp).zip (#[.int .i64 x.1,.agg #[.int .u64 x.2.1,.int .u64 x.2.2]])).foldl (fun t (p,v)=>t.setIfInBounds p v) a.tmps,defers:=[] } W)
  (hbody:∀ (l:Nat) (pre:List (Int × Int × Int)) (x:Int × Int × Int) (a':Act) (W:World),I pre W->AxB a x a' W->pre.length < N->body.wpIn (F.inRound l) (n - 1 - 1) P (ownPostG w.heap.size Kp I (fun _ _ _=>False) (pre ++ [x]) W) a' W)
  (hdone:∀ (D:Nat) (xs:List (Int × Int × Int)) (W:World),w.heap.size<=D->S xs->I xs W->W.heap[D]? = some (.deferred (some []))->Q .normal { a with defers:={ target:=.collected D,args:=#[] } :: a.defers } W) :
  (Code.rangeFunc g #[56,57] assign body).wpIn F n P Q a w:=
 wpIn_rangeFunc_ownH hro h1 hg hFg eg hseq hKt hKb (Below.refl _ _) (fun _=>rfl) I (fun _ _ _=>False) hI (fun _ _ _ _ _ h _ _=>h) h0 (AxB a)
  (fun z a' _ W W' row h hg hr=>by
   obtain ⟨p,hb,e⟩:=h
   refine ⟨p,hb.grow hg (fun k hk hp=>?_),e⟩
   obtain ⟨_,o,ho,hc⟩:=hr k hk
   rw [hp,show W.heap[p]? = _ from hb] at ho
   cases ho
   cases hc)
  hassign (fun l pre x a' W _ _ hi hax hlen=>hbody l pre x a' W hi hax hlen) hdone (fun D c pre W _ _ h _=>h.elim)
theorem grown_base {base b:Nat} {w W:World} (hg:w.grownBy W (some b)) (hb:base<=b) (hw:base<=w.heap.size):Below base w W:=⟨hg.os,hg.tape,hg.output,hg.size,fun k hk=>hg.block k (by omega) (by intro e; cases e; omega)⟩
theorem visit_any (base:Nat) (a:Option Addr) (xs:List Itm) (c:Nat) (ha:Option Addr) (heads:List (Int × Int)) (hc b:Nat) (w:World) (hpp:∀ W,Below base w W->PoolIn W a xs c) (hA:Asc xs) (hr:Digs w.heap.size w ha heads) (hok:∀ d ∈ heads,OkD d) (hm:MapV b 0 (fun _=>none) w) (hbb:base<=b) (hbw:base<=w.heap.size) (hxl:(xs.length:Int)<=500) (hhl:(heads.length:Int)<=10000) :
  Calls Tryz.prog 136 #[.map (some b),.slice a xs.length c,.slice ha heads.length hc] w (GotV xs heads w b):=by
 have HCO:=hid (fun d1 d2 W (hW:Below base w W)=>commit_any a xs c d1 d2 W (hpp W hW) hA)
 have HCL:=hid (cloneD_any ha heads hc w hr (by omega))
 obtain ⟨n,hn⟩:∃ n,n=xs.length:=⟨_,rfl⟩
 rw [<-hn] at HCO ⊢
 obtain ⟨hln,hhn⟩:∃ k,k=heads.length:=⟨_,rfl⟩
 rw [<-hhn] at HCL hhl ⊢
 have HN:=hid hn
 have HHN:=hid hhn
 have HMP:=hid hm
 have HOK:=hid hok
 have HPP:=hid hpp
 clear hn hhn hm hok hpp hr hA
 refine (callsIn_wide (n:=5)).1 ?_
 refine callsIn_of_wp_marks Tryz.func136 rfl trivial ?_ rfl
 simp only [Tryz.ntmps136,List.size_toArray,List.length_cons,List.length_nil,Nat.reduceAdd,Nat.reduceSub,Array.replicate_succ,Array.replicate_zero,List.push_toArray,List.append_toArray,List.nil_append,List.cons_append]
 gi_wp2_with (refine ⟨trivial,?_⟩; gi_at_call 85; refine (callsIn_wide.2 HCL.out).mono ?_; rintro e W1 ⟨oa,oc,rfl,hown,hb1⟩)
 rw [<-HHN.out] at hown ⊢
 obtain ⟨W2,hW2⟩:∃ W2,W2=W1.alloc (.cells #[.slice oa hln oc] 24):=⟨_,rfl⟩
 have ho2:W2.ownsRow w.heap.size 41 2 (.slice oa heads.length oc) heads.length (dcells heads):=by rw [hW2,<-HHN.out]; exact hown.alloc _
 have HRV:=hid (revD_any oa heads oc W2 ho2 (by rw [<-HHN.out]; omega))
 rw [<-HHN.out] at HRV
 have HK2:Hid (BK W1.heap.size #[.slice oa hln oc] 24 W2):=hid (by rw [hW2]; exact BK.new _ _ _)
 have HB2:Hid (Below w.heap.size w W2):=hid (by rw [hW2]; exact hb1.alloc hb1.size _)
 have HS0:Hid (hln=heads.length/\(Value.slice oa hln oc).ownBlock ≠ some W1.heap.size/\w.heap.size<=W1.heap.size):=hid ⟨HHN.out,fun h=>by have:=(hown.lt _ h).2; omega,hb1.size⟩
 rw [hW2] at HRV
 have HW2:=hid hW2
 clear hown hb1 HCL ho2 hW2
 gi_wp2_with (refine ⟨trivial,?_⟩; gi_at_call 192; refine (callsIn_wide.2 HRV.out).mono ?_; rintro e W3 ⟨rfl,hown3,hg3⟩)
 have HV0:Hid (VI xs heads w b W1.heap.size [] heads [] 0 (fun _=>(none,0)) (.slice oa hln oc) (mea xs heads []) W3):=hid (by
  rw [<-HW2.out] at hg3
  have hs:SV xs w b 0 W1.heap.size [] heads.reverse [] (fun _=>(none,0)) (.slice oa hln oc) W3:=by
   have hb3:Below w.heap.size w W3:=HB2.out.grown hg3 HB2.out.size (fun j hj=>by have:=hown3.lt j hj; omega)
   have hm3:=HMP.out.below hb3
   refine ⟨grown_none hb3 _,HMP.out.lt,HK2.out.grow hg3 (fun k e hk=>HS0.out.2.1 (by rw [e,hk])),HS0.out.2.2,by rw [List.length_reverse,<-HHN.out]; exact hown3,HS0.out.2.1,⟨hm3.eq (fun d=>by simp [FA]),by simp,by simp⟩,by simp,by simp,List.nodup_nil⟩
  exact ⟨hs,rfl,Nat.le_refl _,by unfold mea; have h1:=List.countP_le_length (p:=fun x:Itm=>!decide (x.d ∈ ([]:List (Int × Int)))) (l:=xs); have h2:=HHN.out; omega,HOK.out⟩)
 have hF0:mea xs heads []<=600000:=by have:=HV0.out.nk; omega
 obtain ⟨ob,hob⟩:∃ ob,ob=W1.heap.size:=⟨_,rfl⟩
 rw [<-hob] at HV0 ⊢
 clear hown3 hg3 HRV HK2 HB2 HS0 HW2 HMP HOK hob W2
 refine wpIn_loop_fuel (fun k a' wr=>∃ (met st:List (Int × Int)) (Ds:List Nat) (nm:Nat) (A:Int × Int->Option Addr × Nat) (v u8 u9 u10 u11 u12 u13 u20 u21 u22 u23 u24 u25 u26 u27 u28 u29 u30 u31 u32 u33 u34 u35 u36 u37 u38 u39 u40 u41 u42 u43 u44 u45 u46 u47 u48 u49 u50 u51 u52 u53 u54 u55:Value),Hid (VI xs heads w b ob met st Ds nm A v k wr)/\a' = { tmps:=#[.map (some b),.slice a n c,.slice ha hln hc,undef,undef,undef,.int .i64 0,.pointer (some ⟨ob,0,none⟩),u8,u9,u10,u11,u12,u13,undef,undef,.slice ha hln hc,.slice oa hln oc,.slice oa hln oc,.tuple #[],u20,u21,u22,u23,u24,u25,u26,u27,u28,u29,u30,u31,u32,u33,u34,u35,u36,u37,u38,u39,u40,u41,u42,u43,u44,u45,u46,u47,u48,u49,u50,u51,u52,u53,u54,u55,undef,undef,undef,undef,undef,undef],defers:=marks Ds }) ?round (mea xs heads []) _ _ ?start
 case start=>
  refine ⟨[],heads,[],0,fun _=>(none,0),.slice oa hln oc,?_⟩
  repeat apply Exists.intro
  exact ⟨HV0,rfl⟩
 case round=>
  clear HV0 W3 W1
  rintro f a' wr ⟨met,st,Ds,nm,A,v,u8,u9,u10,u11,u12,u13,u20,u21,u22,u23,u24,u25,u26,u27,u28,u29,u30,u31,u32,u33,u34,u35,u36,u37,u38,u39,u40,u41,u42,u43,u44,u45,u46,u47,u48,u49,u50,u51,u52,u53,u54,u55,HV,rfl⟩
  have hob0:wr.cell? ⟨ob,0,none⟩=some v:=by rw [HV.out.sv.bx.cell]; rfl
  have hobf:wr.frozen? ⟨ob,0,none⟩=false:=HV.out.sv.bx.frozen 0
  cases st with
  | nil=>
   obtain ⟨va,vc,rfl,hvc⟩:=ownsRow_sliceN HV.out.sv.ow
   simp only [List.reverse_nil,List.length_nil] at hob0 hvc
   gi_wp2
   refine leaves_marks (by simp) Ds _ HV.out.sv (fun W' hs=>?_)
   exact ⟨_,by simp [results,Tryz.results136,go_sem],HV.out.fin hs⟩
  | cons d st'=>
   obtain ⟨x,y⟩:=d
   have hrev:((x,y) :: st').reverse=st'.reverse ++ [(x,y)]:=List.reverse_cons
   obtain ⟨g,vc,hvv,hvc,q0,q1,hpop⟩:=own_pop (by rw [<-hrev]; exact HV.out.sv.ow)
   have hokd:=HV.out.ok (x,y) (by simp)
   have HOK':Hid (∀ d ∈ st',OkD d):=hid (fun d hd=>HV.out.ok d (by simp [hd]))
   have hme:=HV.out.me
   have hnk:=HV.out.nk
   have hm1:=mea_pop' xs st' met (x,y)
   obtain ⟨gk,rfl⟩:∃ g,f=g + 1:=⟨f - 1,by omega⟩
   have hml:st'.reverse.length<=600000:=by
    rw [List.length_reverse]
    have:st'.length<=mea xs st' met:=by unfold mea; omega
    omega
   have HEQ:=hid HV.out.eq
   have HSV:=hid HV.out.sv
   clear HV
   rw [hrev] at HSV
   subst hvv
   obtain ⟨m,hm⟩:∃ m,m=st'.reverse.length:=⟨_,rfl⟩
   rw [<-hm] at hvc q0 q1 hpop hml HSV hob0
   have hpopr:=fun W=>dpop_run g (m + 1) vc m (by omega) (by omega) W
   have hsub:((m:Int) + 1 - 1)=(m:Int):=by omega
   have hobw:=HSV.out.bx.lt
   have hww:=HSV.out.gr.size
   have hne:ob ≠ wr.heap.size:=by omega
   have hne':wr.heap.size ≠ ob:=by omega
   obtain ⟨u1,hu1⟩:∃ u1,u1=(wr.setCell ⟨ob,0,none⟩ (.slice (some ⟨g,0,none⟩) m vc)).alloc (.cells #[.int .u64 x,.int .u64 y] 41):=⟨_,rfl⟩
   have hss:(wr.setCell ⟨ob,0,none⟩ (.slice (some ⟨g,0,none⟩) m vc)).heap.size=wr.heap.size:=by simp [World.setCell]
   have HS1:Hid (SV xs w b nm ob met st'.reverse Ds A (.slice (some ⟨g,0,none⟩) m vc) u1):=hid (by rw [hu1]; exact (HSV.out.set (v':=.slice (some ⟨g,0,none⟩) m vc) (by rw [<-hm]; exact hpop) rfl).alloc _)
   have HK1:Hid (BK wr.heap.size #[.int .u64 x,.int .u64 y] 41 u1):=hid (by rw [hu1,<-hss]; exact BK.new _ _ _)
   have hlk:=HS1.out.vm.mp.lookOk Tryz.underlying199 (zeroSl u1) hokd
   have c0:u1.cell? ⟨wr.heap.size,0,none⟩=some (.int .u64 x):=by rw [HK1.out.cell]; rfl
   have c1:u1.cell? ⟨wr.heap.size,1,none⟩=some (.int .u64 y):=by rw [HK1.out.cell]; rfl
   have hoba:=fun o=>cell_a1 hob0 o
   have hobfa:=fun o=>(HSV.out.alloc o).bx.frozen 0
   rw [hu1] at hlk c0 c1
   have HU1:=hid hu1
   have HM:=hid hm
   clear hu1 hpop hrev hm
   by_cases hmet:(x,y) ∈ met
   ·simp only [FA,if_pos hmet,Option.getD_some,Option.isSome_some] at hlk
    have HN':Hid (VI xs heads w b ob met st' Ds nm A (.slice (some ⟨g,0,none⟩) m vc) gk u1):=hid ⟨HS1.out,by rw [HEQ.out,visS_cons,if_pos hmet],by omega,by omega,HOK'.out⟩
    rw [HU1.out] at HN'
    clear HS1 HK1 hmet HSV HU1
    gi_wp2
    refine ⟨gk,rfl,met,st',Ds,nm,A,.slice (some ⟨g,0,none⟩) m vc,?_⟩
    repeat apply Exists.intro
    exact ⟨HN',rfl⟩
   ·simp only [FA,if_neg hmet,Option.getD_none,Option.isSome_none] at hlk
    have HC1:=hid (HCO.out x y u1 (grown_base HS1.out.gr hbb hbw))
    obtain ⟨OE,hOE⟩:∃ OE,OE=commitS xs (x,y):=⟨_,rfl⟩
    rw [<-hOE] at HC1
    rw [HU1.out] at HC1
    obtain ⟨⟨kind,data,ents,⟨t1,t2⟩,pars,author,time,msg⟩,er⟩:=OE
    have HCE:=hid hOE.symm
    simp only at HC1
    have HMT:=hid hmet
    have hu1s:u1.heap.size=wr.heap.size + 1:=by rw [HU1.out]; simp [World.setCell]
    clear hOE hmet
    gi_wp2
    refine ⟨trivial,?_⟩
    refine (callsIn_wide.2 HC1.out).mono ?_
    rintro e u2 ⟨ea,ec,pa,pc,rfl,hobb,hb⟩
    rw [<-HU1.out] at hobb hb
    have hgl:∀ k,(Value.slice (some ⟨g,0,none⟩) m vc).ownBlock=some k->k < u1.heap.size:=fun k e=>(HS1.out.ow.lt k e).2
    clear HC1 hlk c0 c1 hoba hobfa HU1 HSV q0 q1 hpopr
    simp only [Ob.val]
    obtain ⟨ne,hnee⟩:∃ ne,ne=ents.length:=⟨_,rfl⟩
    obtain ⟨np,hnp⟩:∃ np,np=pars.length:=⟨_,rfl⟩
    obtain ⟨u3,hu3⟩:∃ u3,u3=u2.alloc (.cells (Ob.arr ⟨kind,data,ents,(t1,t2),pars,author,time,msg⟩ ea ec pa pc) 56):=⟨_,rfl⟩
    simp only [Ob.arr] at hu3
    rw [<-hnee,<-hnp] at hu3 ⊢
    have HNP:=hid hnp
    have HS3:Hid (SV xs w b nm ob met st'.reverse Ds A (.slice (some ⟨g,0,none⟩) m vc) u3):=hid (by rw [hu3]; exact (HS1.out.below hb).alloc _)
    have HKO:Hid (BK u2.heap.size #[.int .i64 kind,.string ⟨data.toArray⟩,.slice ea ne ec,.int .u64 t1,.int .u64 t2,.slice pa np pc,.string ⟨author.toArray⟩,.int .i64 time,.string ⟨msg.toArray⟩] 56 u3):=hid (by rw [hu3]; exact BK.new _ _ _)
    have HK2:Hid (BK wr.heap.size #[.int .u64 x,.int .u64 y] 41 u2):=hid (HK1.out.below hb)
    have HPO:Hid (u3.ownsRow u1.heap.size 41 2 (.slice pa pars.length pc) pars.length (dcells pars)):=hid (by rw [hu3]; exact hobb.po.alloc _)
    have hz3:u3.heap.size=u2.heap.size + 1:=by rw [hu3]; simp
    have hz2:=hb.size
    have k0:u2.cell? ⟨wr.heap.size,0,none⟩=some (.int .u64 x):=by rw [HK2.out.cell]; rfl
    have k1:u2.cell? ⟨wr.heap.size,1,none⟩=some (.int .u64 y):=by rw [HK2.out.cell]; rfl
    have k0a:=fun o=>cell_a1 k0 o
    have k1a:=fun o=>cell_a1 k1 o
    clear hnee hnp hobb hb HS1 HK1 HK2
    by_cases he:er=0
    ·subst he
     have hpl:=pars_le (xs:=xs) (d:=(x,y)) (by rw [HCE.out])
     have HPK:=hid (pars_okD (xs:=xs) (d:=(x,y)) (by rw [HCE.out]))
     obtain ⟨u4,hrun,hs4,hg4,hz4⟩:=HS3.out.put hokd (by omega) (pa:=pa) (pc:=pc) (by rw [HCE.out]; exact ownsRow_digs HPO.out) (by rw [HCE.out]; exact own_cap HPO.out) (fun ad e=>by
      have h1:=HPO.out.lt ad.block (by rw [e]; rfl)
      refine ⟨by have:=HS3.out.gr.size; have:=HS3.out.lo; omega,h1.2,by omega,fun e2=>?_⟩
      have:=hgl _ e2
      omega)
     have HEN:Hid (visS xs heads []=visS xs (pars ++ st') (met ++ [(x,y)])/\mea xs (pars ++ st') (met ++ [(x,y)])<=gk):=hid ⟨by rw [HEQ.out,visS_cons,if_neg HMT.out,if_neg (by rw [HCE.out]; simp),HCE.out],by
      have h1:=mea_hit' (st:=st') HMT.out (by rw [HCE.out])
      rw [HCE.out] at h1
      simp only at h1
      omega⟩
     rw [HCE.out] at hrun hpl HPK
     simp only at hrun hpl HPK
     rw [<-HNP.out] at hpl
     rw [<-HNP.out,hu3] at hrun
     have HS4:=hid hs4
     have HKO4:Hid (BK u2.heap.size #[.int .i64 kind,.string ⟨data.toArray⟩,.slice ea ne ec,.int .u64 t1,.int .u64 t2,.slice pa np pc,.string ⟨author.toArray⟩,.int .i64 time,.string ⟨msg.toArray⟩] 56 u4):=hid (HKO.out.grow1 hg4 (by have:=HS3.out.lb; have:=HS3.out.gr.size; omega))
     have HPD4:Hid (Digs u4.heap.size u4 pa pars):=hid ((ownsRow_digs HPO.out).kept hg4 (fun _ ad e hk=>by
      have h1:=HPO.out.lt ad.block (by rw [e]; rfl)
      have h2:=HS3.out.lb
      have:=Option.some.inj hk
      have:=HS3.out.gr.size
      omega))
     have o5:u4.cell? ⟨u2.heap.size,5,none⟩=some (.slice pa np pc):=by rw [HKO4.out.cell]; rfl
     have HZ:=hid (And.intro hz3 hz4)
     have hobz:=HS4.out.bx.lt
     clear hs4 hg4 hu3 HS3 HKO HPO HEQ hz3 hz4
     gi_wp2
     refine ⟨trivial,?_⟩
     refine (callsIn_wide.2 (back_any pa np pc u4)).mono ?_
     rintro e u5 ⟨rfl,hu5⟩
     have HS5:Hid (SV xs w b (nm + 1) ob (met ++ [(x,y)]) st'.reverse Ds (fun d=>if d=(x,y) then (pa,pc) else A d) (.slice (some ⟨g,0,none⟩) m vc) u5):=hid (by rw [<-hu5]; exact HS4.out.alloc _)
     have HB5:Hid (BK u4.heap.size #[.slice pa np pc] 24 u5):=hid (by rw [<-hu5]; exact BK.new _ _ _)
     have HD5:Hid (Digs u5.heap.size u5 pa pars):=hid (by rw [<-hu5]; exact HPD4.out.ahead ((Below.refl _ _).alloc (Nat.le_refl _) _))
     have hz5:u5.heap.size=u4.heap.size + 1:=by rw [<-hu5]; simp
     obtain ⟨Bs,hBs⟩:∃ Bs,Bs=u4.heap.size:=⟨_,rfl⟩
     have hobl:=HS4.out.bx.lt
     rw [<-hBs] at HB5 hz5 hobl ⊢
     have HZ5:=hid hz5
     clear hBs hz5
     clear HS4 HPD4 HKO4 o5 hrun hu5 k0 k1 k0a k1a
     gi_wp2
     have hz5:=HZ5.out
     obtain ⟨A',hA'⟩:∃ A':Int × Int->Option Addr × Nat,A' = fun d=>if d=(x,y) then (pa,pc) else A d:=⟨_,rfl⟩
     rw [<-hA'] at HS5
     have HA':Hid ((A' (x,y)).1=pa):=hid (by rw [hA']; simp)
     clear hA'
     have hmx:(x,y) ∈ met ++ [(x,y)]:=by simp
     have hpb5:∀ ad,pa=some ad->ad.block < u5.heap.size:=fun ad e=>(HS5.out.vm.pb (x,y) hmx ad (by rw [HA'.out,e])).2.1
     have hrl:st'.reverse.length<=600000:=by rw [<-HM.out]; exact hml
     refine rf_box rfl (by omega) (gf:=219) (lb:=#[.pointer (some ⟨Bs,0,none⟩)]) rfl trivial (enters_of Tryz.func219 (by kernel_rfl) rfl)
      (back_stops Fence.wide (5 - 1) trivial rfl (by omega) Bs pa pc pars (by rw [<-HNP.out]; omega) u5 (by rw [<-HNP.out]; exact HB5.out) HD5.out) (fun h k=>h.trans k)
      (fun W l o o' hl ho hc hw=>⟨by simp,World.putObj_heap_other (by omega),fun ad e=>World.putObj_heap_other (by have:=hpb5 ad e; omega)⟩)
      (fun pre W=>∃ v,SV xs w b (nm + 1) ob (met ++ [(x,y)]) (st'.reverse ++ pre.map (fun z=>z.2)) Ds A' v W/\BK Bs #[.slice pa np pc] 24 W)
      ?hI ?h0 ?assign ?body ?done
     case hI=>
      rintro s W W' row ⟨v,h1,h2⟩ hg hr
      refine ⟨v,h1.kept hg (fun k e=>⟨?_,fun hD=>?_,(hr k e).2⟩),h2.grow hg (fun k e hk=>by have:=(hr k e).1; omega)⟩
      ·have:=(hr k e).1
       have:=HS5.out.gr.size
       omega
      ·have:=(hr k e).1
       have:=(Array.getElem?_eq_some_iff.1 (HS5.out.mks k hD).2).1
       omega
     case h0=>exact ⟨_,by simpa using HS5.out,HB5.out⟩
     case assign=>
      rintro l pre ⟨z1,z2,z3⟩ W K ⟨v,h1,h2⟩ hK
      gi_wp2
      refine hK _ _ ((KeepsOthers.alloc _ _).from _) ⟨by simp,Below.heap_alloc _ _ _ h2.lt,fun ad e=>Below.heap_alloc _ _ _ ?_⟩ ⟨v,h1.alloc _,h2.alloc _⟩ ⟨W.heap.size,BK.new _ _ _,rfl⟩
      exact (h1.vm.pb (x,y) hmx ad (by rw [HA'.out,e])).2.1
     case body=>
      rintro l pre ⟨z1,z2,z3⟩ a' W ⟨v,h1,h2⟩ ⟨p,hbp,rfl⟩ hlen
      obtain ⟨va,vc',rfl,hvc'⟩:=ownsRow_sliceN h1.ow
      obtain ⟨v',W2,hrun,hown',hg',hat'⟩:=append_one h1.ow z2 z3 (by rw [List.length_append,List.length_map]; have:=HNP.out; omega) h1.gr.size
      have HS2:=hid ((h1.alloc (.cells #[.int .u64 z2,.int .u64 z3] 41)).push hown' hg' (by simpa using hat'))
      have hown2:=hown'
      obtain ⟨a2,c2,rfl,_⟩:=ownsRow_sliceN hown2
      have hob2:BK ob #[.slice va (st'.reverse ++ pre.map (fun z=>z.2)).length vc'] 24 W2:=(h1.alloc _).bx.grow hg' (fun k e hk=>h1.ne (by rw [e,hk]))
      have hnb:=Boxed.not_row h2 (by decide) h1.ow
      have hBs2:BK Bs #[.slice pa np pc] 24 W2:=(h2.alloc _).grow hg' (fun k e hk=>hnb (by rw [<-hk,e]))
      have HFN:Hid (ownPostG u5.heap.size (Kp Bs pa) (fun pre W=>∃ v,SV xs w b (nm + 1) ob (met ++ [(x,y)]) (st'.reverse ++ pre.map (fun z=>z.2)) Ds A' v W/\BK Bs #[.slice pa np pc] 24 W) (fun _ _ _=>False) (pre ++ [(z1,z2,z3)]) W .normal { tmps:=#[],defers:=[] } (W2.setCell ⟨ob,0,none⟩ (.slice a2 ((st'.reverse ++ pre.map (fun z=>z.2)) ++ [(z2,z3)]).length c2))):=hid (by
       have hz:W.heap.size<=W2.heap.size:=by have:=hg'.size; simp at this; omega
       have hset:∀ v,(W2.setCell ⟨ob,0,none⟩ v).heap.size=W2.heap.size:=fun v=>by simp [World.setCell]
       have hstep:∀ k,k < W.heap.size->k ≠ ob->(Value.slice va (st'.reverse ++ pre.map (fun z=>z.2)).length vc').ownBlock ≠ some k->∀ v,(W2.setCell ⟨ob,0,none⟩ v).heap[k]? = W.heap[k]?:=fun k hk h3 h4 v=>
        (Below.heap_setCell _ _ _ _ h3).trans ((hg'.block k (by simp; omega) (fun e=>h4 e.symm)).trans (Below.heap_alloc _ _ _ hk))
       refine ⟨⟨by rw [hset]; exact hz,fun k o _ hk ho=>?_⟩,⟨by rw [hset]; exact hz,?_,fun ad e=>?_⟩,_,by rw [List.map_append,<-List.append_assoc]; exact HS2.out,hBs2.other (by omega) _ _⟩
       ·rw [hstep k (Array.getElem?_eq_some_iff.1 hk).1 (fun e=>?_) (fun e=>?_),hk]
        ·rw [e,show W.heap[ob]? = _ from h1.bx] at hk
         cases hk
         cases ho
        ·have:=own_cells h1.ow e hk
         rw [ho] at this
         cases this
       ·exact hstep Bs h2.lt (by omega) (fun e=>hnb e.symm) _
       ·have h5:=h1.pb (x,y) hmx ad (by rw [HA'.out,e])
        exact hstep ad.block (h1.vm.pb (x,y) hmx ad (by rw [HA'.out,e])).2.1 h5.1 h5.2 _)
      have e0:W.cell? ⟨ob,0,none⟩=some (.slice va (st'.reverse ++ pre.map (fun z=>z.2)).length vc'):=by rw [h1.bx.cell]; rfl
      have e1:W.cell? ⟨p,0,none⟩=some (.int .u64 z2):=by rw [hbp.cell]; rfl
      have e2:W.cell? ⟨p,1,none⟩=some (.int .u64 z3):=by rw [hbp.cell]; rfl
      have e3:W2.cell? ⟨ob,0,none⟩=some (.slice va (st'.reverse ++ pre.map (fun z=>z.2)).length vc'):=by rw [hob2.cell]; rfl
      have e4:W2.frozen? ⟨ob,0,none⟩=false:=hob2.frozen 0
      have HRUN:=hid hrun
      clear hrun hown' hg' hat' hown2 hob2 hnb hBs2 HS2 h1 h2 hbp
      simp only [List.setIfInBounds_toArray,List.set_cons_succ,List.set_cons_zero]
      generalize ((st'.reverse ++ pre.map (fun z=>z.2)) ++ [(z2,z3)]).length=L2 at HRUN HFN
      generalize (st'.reverse ++ pre.map (fun z=>z.2)).length=L1 at HRUN e0 e3 hvc'
      gi_wp2_with (gi_at_builtin; refine wpListIn_append_run _ rfl _ _ _ _ rfl _ _ rfl rfl _ _ HRUN.out ?_)
      exact HFN.out
     case done=>
      rintro D xs' W hD hS ⟨v,h1,h2⟩ hdef
      have HN':Hid (VI xs heads w b ob (met ++ [(x,y)]) (pars ++ st') (D :: Ds) (nm + 1) A' v gk W):=hid (by
       refine ⟨?_,HEN.out.1,HEN.out.2,by omega,fun d hd=>?_⟩
       ·have h3:=h1.mark (D:=D) (by have:=HS5.out.gr.size; omega) hdef (fun hDm=>by have:=(Array.getElem?_eq_some_iff.1 (HS5.out.mks D hDm).2).1; omega)
        rw [hS] at h3
        rw [List.reverse_append]
        exact h3
       ·rcases List.mem_append.1 hd with h3 | h3
        ·exact HPK.out d h3
        ·exact HOK'.out d h3)
      clear h1 h2 HS5 HB5 HD5 HEN HPK HOK'
      gi_wp2
      refine ⟨gk,rfl,met ++ [(x,y)],pars ++ st',D :: Ds,nm + 1,A',v,?_⟩
      repeat apply Exists.intro
      exact ⟨HN',rfl⟩
    ·have hee:(er != 0)=true:=by simpa using he
     have HX:Hid (visS xs heads []=([],er)):=hid (by rw [HEQ.out,visS_cons,if_neg HMT.out,HCE.out,if_pos he])
     rw [hu3] at HS3
     clear hu3 he HKO HPO HEQ
     gi_wp2
     refine leaves_marks (by simp) Ds _ HS3.out (fun W' hs=>?_)
     refine ⟨.int .i64 er,by simp [results,Tryz.results136,go_sem],?_⟩
     unfold GotV
     rw [HX.out]
     exact ⟨rfl,hs.gr,fun h=>absurd h (by simpa using hee)⟩
theorem zeroI (W:World):(zeroValue 3).run Tryz.prog W = .ok (.int .i64 0) W:=by kernel_rfl
def FK (K:Int × Int->Option Nat) (d:Int × Int):Option Value:=(K d).map fun k=>.int .i64 (k:Int)
theorem MapV.obj {b n:Nat} {F:Int × Int->Option Value} {W:World} (h:MapV b n F W):∃ es c,W.heap[b]? = some (.map es c):=by
 obtain ⟨D,⟨es,c,hb,_⟩,_⟩:=h
 exact ⟨es,c,hb⟩
structure DV (xs:List Itm) (B b nb:Nat) (met:List (Int × Int)) (A:Int × Int->Option Addr × Nat) (kd n:Nat) (K:Int × Int->Option Nat) (kb mb db:Nat) (W:World):Prop where
 vm:VM xs B b nb met A W
 km:MapV kd n (FK K) W
 k1:BK kb #[.map (some kd)] 105 W
 k2:BK mb #[.map (some b)] 199 W
 k3:BK db #[.func (.func 220) #[] #[.pointer (some ⟨kb,0,none⟩),.pointer (some ⟨mb,0,none⟩),.pointer (some ⟨db,0,none⟩)]] 277 W
 ne:kd ≠ b
section
variable {xs:List Itm} {B b nb kd n kb mb db:Nat} {met:List (Int × Int)} {A:Int × Int->Option Addr × Nat} {K:Int × Int->Option Nat} {W W':World}
theorem DV.below (h:DV xs B b nb met A kd n K kb mb db W) (hb:Below W.heap.size W W'):DV xs B b nb met A kd n K kb mb db W':=⟨h.vm.below hb,h.km.below hb,h.k1.below hb,h.k2.below hb,h.k3.below hb,h.ne⟩
theorem DV.alloc (h:DV xs B b nb met A kd n K kb mb db W) (o:Obj):DV xs B b nb met A kd n K kb mb db (W.alloc o):=h.below ((Below.refl _ _).alloc (Nat.le_refl _) _)
theorem DV.put (h:DV xs B b nb met A kd n K kb mb db W) {x y:Int} (hd:OkD (x,y)) (hn:(n:Int)<=1000000000) (k:Nat) :
  ∃ W',(Instr.mapUpdate 105 (.map (some kd)) (.agg #[.int .u64 x,.int .u64 y]) (.int .i64 (k:Int))).run Tryz.prog W = .ok () W'/\DV xs B b nb met A kd (n + 1) (fun d=>if d=(x,y) then some k else K d) kb mb db W'/\W.grownBy W' (some kd)/\W'.heap.size=W.heap.size:=by
 obtain ⟨W',hrun,hm,hg,hs⟩:=h.km.put Tryz.underlying105 hd hn (.int .i64 (k:Int))
 obtain ⟨es,c,ho⟩:=h.km.obj
 have hbk:∀ {p:Nat} {cs:Array Value} {t:TypeId},BK p cs t W->kd ≠ p:=fun hp e=>by
  rw [e,show W.heap[_]? = _ from hp] at ho
  cases ho
 refine ⟨W',hrun,⟨h.vm.kept hg (fun e=>h.ne (Option.some.inj e)) (fun j e d hd hp ad ha=>?_),hm.eq (fun d=>?_),h.k1.grow1 hg (hbk h.k1),h.k2.grow1 hg (hbk h.k2),h.k3.grow1 hg (hbk h.k3),h.ne⟩,hg,hs⟩
 ·cases e
  exact digs_cells (h.vm.pr d hd).1 hp ha ho rfl
 ·unfold FK
  by_cases e:d=(x,y) <;> simp [e]
end
def unk (met:List (Int × Int)) (K:Int × Int->Option Nat):Nat:=met.countP fun d=>(K d).isNone
def GotD1 (xs:List Itm) (B b nb:Nat) (met:List (Int × Int)) (A:Int × Int->Option Addr × Nat) (kd n:Nat) (K:Int × Int->Option Nat) (kb mb db:Nat) (d:Int × Int) (W:World) (e:Ending) (W':World):Prop:=
 e = .returned (.int .i64 ((depS xs d:Nat):Int))/\W.grownBy W' (some kd)/\∃ n' K',DV xs B b nb met A kd n' K' kb mb db W'/\(∀ e,K' e=K e\/(K' e=some (depS xs e)/\Anc xs d e))/\K' d=some (depS xs d)/\n' + 2 * unk met K'<=n + 2 * unk met K
theorem foldl_snoc_max (l:List Nat) (a:Nat):(l ++ [a]).foldl max 0=max (l.foldl max 0) a:=by rw [List.foldl_append]; rfl
theorem depth1_any (xs:List Itm) (B b nb:Nat) (met:List (Int × Int)) (A:Int × Int->Option Addr × Nat) (kd kb mb db:Nat) (hA:AcyS xs) (hcl:∀ d ∈ met,(commitS xs d).2=0/\∀ p ∈ (commitS xs d).1.pars,p ∈ met) (hok:∀ d ∈ met,OkD d) (hxl:(xs.length:Int)<=500) :
  ∀ (f:Nat) (x y:Int) (n:Nat) (K:Int × Int->Option Nat) (W:World),rkS xs (x,y) < f->(x,y) ∈ met->DV xs B b nb met A kd n K kb mb db W->((n + 2 * unk met K:Nat):Int)<=1000000->(∀ e,Anc xs (x,y) e->∀ k,K e=some k->k=depS xs e)->
  Calls Tryz.prog 220 #[.agg #[.int .u64 x,.int .u64 y],.pointer (some ⟨kb,0,none⟩),.pointer (some ⟨mb,0,none⟩),.pointer (some ⟨db,0,none⟩)] W (GotD1 xs B b nb met A kd n K kb mb db (x,y) W):=by
 intro f
 induction f with
 | zero=>intro x y n K W h; omega
 | succ f ih=>
  intro x y n K W hrk hmem hdv hnb hK
  have HIH:=hid ih
  clear ih
  have hokd:=hok _ hmem
  have hdl:depS xs (x,y)<=xs.length:=Nat.le_trans (dep_rk hA _ _ (Nat.le_refl _)) (rk_le xs _)
  obtain ⟨W1,hW1⟩:∃ W1,W1=W.alloc (.cells #[.int .u64 x,.int .u64 y] 41):=⟨_,rfl⟩
  have HD1:Hid (DV xs B b nb met A kd n K kb mb db W1):=hid (by rw [hW1]; exact hdv.alloc _)
  have HB1:Hid (BK W.heap.size #[.int .u64 x,.int .u64 y] 41 W1):=hid (by rw [hW1]; exact BK.new _ _ _)
  have hlk:=HD1.out.km.lookOk Tryz.underlying105 (zeroI W1) hokd
  have a1:W1.cell? ⟨kb,0,none⟩=some (.map (some kd)):=by rw [HD1.out.k1.cell]; rfl
  have HG1:Hid (W.grownBy W1 (some kd)):=hid (by rw [hW1]; exact World.grownBy_alloc _ _ _)
  cases hk:K (x,y) with
  | some k=>
   obtain rfl:k=depS xs (x,y):=hK _ (.refl _) k hk
   simp [FK,hk] at hlk
   have HX:Hid (GotD1 xs B b nb met A kd n K kb mb db (x,y) W (.returned (.int .i64 ((depS xs (x,y):Nat):Int))) W1):=hid ⟨rfl,HG1.out,n,K,HD1.out,fun e=>.inl rfl,hk,Nat.le_refl _⟩
   rw [hW1] at hlk a1 HX
   clear hW1 HD1 HB1 HG1 hdv hK hrk hnb hdl HIH hk hcl hok hA
   generalize depS xs (x,y)=R at HX hlk
   go_enter Tryz.func220,Tryz.ntmps220
   go_wp2_with fail
   go_ret
   exact HX.out
  | none=>
   simp [FK,hk] at hlk
   obtain ⟨W2,hrun,hdv2,hg2,hz2⟩:=HD1.out.put hokd (by omega) 0
   have HD2:=hid hdv2
   have HB2:Hid (BK W.heap.size #[.int .u64 x,.int .u64 y] 41 W2):=hid (HB1.out.grow1 hg2 (by have:=hdv.km.lt; omega))
   have HG2:Hid (W.grownBy W2 (some kd)):=hid (HG1.out.andThen hg2 (fun j e=>.inr e.symm.symm))
   have HUK:Hid (n + 1 + 2 * unk met (fun d=>if d=(x,y) then some 0 else K d) + 1<=n + 2 * unk met K):=hid (by
    have:=countP_strict (p:=fun d=>((fun d=>if d=(x,y) then some 0 else K d) d:Option Nat).isNone) (q:=fun d=>(K d).isNone) (l:=met) (x:=(x,y)) (fun d _ h=>by
     by_cases e:d=(x,y)
     ·simp [e] at h
     ·simpa [e] using h) hmem (by simp) (by simp [hk])
    unfold unk
    omega)
   have HK1:Hid (∀ e,Anc xs (x,y) e->∀ k,K e=some k->k=depS xs e):=hid hK
   have HC:=hid (hcl _ hmem)
   have HMEM:=hid hmem
   obtain ⟨K1,hK1⟩:∃ K1:Int × Int->Option Nat,K1=fun d=>if d=(x,y) then some 0 else K d:=⟨_,rfl⟩
   rw [<-hK1] at HD2 HUK
   have HKE:Hid (K1 (x,y)=some 0/\∀ e,e ≠ (x,y)->K1 e=K e):=hid (by rw [hK1]; exact ⟨by simp,fun e he=>by simp [he]⟩)
   have b1:W2.cell? ⟨kb,0,none⟩=some (.map (some kd)):=by rw [HD2.out.k1.cell]; rfl
   have b2:W2.cell? ⟨mb,0,none⟩=some (.map (some b)):=by rw [HD2.out.k2.cell]; rfl
   have c0:W2.cell? ⟨W.heap.size,0,none⟩=some (.int .u64 x):=by rw [HB2.out.cell]; rfl
   have c1:W2.cell? ⟨W.heap.size,1,none⟩=some (.int .u64 y):=by rw [HB2.out.cell]; rfl
   have hpr:=HD2.out.vm.pr _ hmem
   have hlm:=HD2.out.vm.mp.look Tryz.underlying199 (zeroSl W2) hokd
   simp only [FA,if_pos hmem,Option.getD_some] at hlm
   have hpl:=pars_le (HC.out.1)
   have HFIN:Hid (depS xs (x,y)=((commitS xs (x,y)).1.pars.map fun p=>depS xs p + 1).foldl max 0):=hid (depS_eq hA _)
   have HAC:Hid (∀ p ∈ (commitS xs (x,y)).1.pars,¬ Anc xs p (x,y)/\rkS xs p < f/\p ∈ met/\(∀ e,Anc xs p e->Anc xs (x,y) e)/\depS xs p<=500):=hid (fun p hp=>⟨hA _ _ HC.out.1 hp,by have:=rk_lt hA HC.out.1 hp; omega,HC.out.2 p hp,fun e he=>.step HC.out.1 hp he,by have:=dep_rk hA _ p (Nat.le_refl _); have:=rk_le xs p; omega⟩)
   obtain ⟨pars,hpars⟩:∃ pars,pars=(commitS xs (x,y)).1.pars:=⟨_,rfl⟩
   rw [<-hpars] at hpr hlm hpl HFIN HAC
   generalize A (x,y)=AX at hpr hlm
   obtain ⟨pa,pc⟩:=AX
   simp only at hpr hlm
   obtain ⟨np,hnp⟩:∃ np,np=pars.length:=⟨_,rfl⟩
   rw [<-hnp] at hlm hpl hpr
   have HNP:=hid hnp
   have HPD:=hid hpr.1
   have hnp2:=hpr.2
   rw [show (((0:Nat):Int))=0 from rfl] at hrun
   rw [hW1] at hlk a1 hrun
   clear hpars hpr hnp hK1 hdv2 hg2 hz2 hW1 HD1 HB1 HG1 hdv hK hrk hmem hcl hok hA hk hdl
   go_enter Tryz.func220,Tryz.ntmps220
   go_wp2_with fail
   go_loopw [8,25] (fun v i wr=>∃ (k m:Nat) (n2:Nat) (K2:Int × Int->Option Nat),k<=np/\v = .int .i64 (m:Int)/\m<=501/\Hid (m=((pars.take k).map fun p=>depS xs p + 1).foldl max 0)/\i = .int .i64 k/\Hid (DV xs B b nb met A kd n2 K2 kb mb db wr)/\Hid (Digs wr.heap.size wr pa pars)/\Hid (BK W.heap.size #[.int .u64 x,.int .u64 y] 41 wr)/\Hid (W.grownBy wr (some kd))/\Hid (n2 + 1 + 2 * unk met K2<=n + 2 * unk met K)/\Hid (∀ e,K2 e=K1 e\/(K2 e=some (depS xs e)/\Anc xs (x,y) e/\e ≠ (x,y)))) (fun _ i _=>np - (intOf i).toNat)
   case atStart=>exact ⟨0,0,n + 1,K1,by omega,rfl,by omega,hid rfl,rfl,HD2,HPD,HB2,HG2,hid (by have:=HUK.out; omega),hid (fun e=>.inl rfl)⟩
   case round=>
    clear HD2 HPD HB2 HG2 HUK b1 b2 c0 c1 hlm hrun hlk a1
    obtain ⟨k,m,n2,K2,hk,rfl,hm5,HM,rfl,HDV,HPD,HB,HG,HU,HK2⟩:=hrel
    have b1:wr.cell? ⟨kb,0,none⟩=some (.map (some kd)):=by rw [HDV.out.k1.cell]; rfl
    have b3:wr.cell? ⟨db,0,none⟩=some (.func (.func 220) #[] #[.pointer (some ⟨kb,0,none⟩),.pointer (some ⟨mb,0,none⟩),.pointer (some ⟨db,0,none⟩)]):=by rw [HDV.out.k3.cell]; rfl
    have c0:wr.cell? ⟨W.heap.size,0,none⟩=some (.int .u64 x):=by rw [HB.out.cell]; rfl
    have c1:wr.cell? ⟨W.heap.size,1,none⟩=some (.int .u64 y):=by rw [HB.out.cell]; rfl
    by_cases hlt:k < np
    ·have h1:k < pars.length:=by have:=HNP.out; omega
     obtain ⟨b0,of0,haa,hb0,q0,q1⟩:=HPD.out k h1
     subst haa
     have HTK:Hid (((pars.take (k + 1)).map fun p=>depS xs p + 1).foldl max 0=max m (depS xs pars[k] + 1)):=hid (by rw [List.take_succ_eq_append_getElem h1,List.map_append,HM.out]; exact foldl_snoc_max _ _)
     have HPK:=hid (HAC.out _ (List.getElem_mem h1))
     generalize pars[k]=p at q0 q1 HTK HPK
     obtain ⟨p1,p2⟩:=p
     simp only at q0 q1
     have b3a:=fun o=>cell_a1 b3 o
     obtain ⟨u0,hu0⟩:∃ u0,u0=wr.alloc (.cells #[.int .u64 p1,.int .u64 p2] 41):=⟨_,rfl⟩
     have HDV0:Hid (DV xs B b nb met A kd n2 K2 kb mb db u0):=hid (by rw [hu0]; exact HDV.out.alloc _)
     have HCALL:=hid (HIH.out p1 p2 n2 K2 u0 HPK.out.2.1 HPK.out.2.2.1 HDV0.out (by have:=HU.out; omega) (fun e he v hv=>by
      have hne:e ≠ (x,y):=fun h=>HPK.out.1 (by rw [<-h]; exact he)
      rcases HK2.out e with h2 | h2
      ·rw [h2,HKE.out.2 e hne] at hv
       exact HK1.out e (HPK.out.2.2.2.1 e he) v hv
      ·rw [h2.1] at hv
       exact (Option.some.inj hv).symm))
     have hdp:depS xs (p1,p2)<=500:=HPK.out.2.2.2.2
     rw [hu0] at HCALL
     have HU0:=hid hu0
     have hkn:(k:Int) < (np:Int):=by omega
     clear hu0
     go_wp2_with fail
     refine (HCALL.out).mono ?_
     rintro e u1 ⟨rfl,hg,n3,K3,hdv3,hk3,hkp,hn3⟩
     rw [<-HU0.out] at hg
     have HDV3:=hid hdv3
     have hsz:u0.heap.size=wr.heap.size + 1:=by rw [HU0.out]; simp
     obtain ⟨es,c,ho⟩:=HDV0.out.km.obj
     have HPD3:Hid (Digs u1.heap.size u1 (some ⟨b0,of0,none⟩) pars):=hid (by
      have h0:Digs u0.heap.size u0 (some ⟨b0,of0,none⟩) pars:=by rw [HU0.out]; exact HPD.out.ahead ((Below.refl _ _).alloc (Nat.le_refl _) _)
      exact h0.kept hg (fun hp ad e hk=>digs_cells h0 hp e ho rfl (Option.some.inj hk)))
     have HB3:Hid (BK W.heap.size #[.int .u64 x,.int .u64 y] 41 u1):=hid (by
      have h0:BK W.heap.size #[.int .u64 x,.int .u64 y] 41 u0:=by rw [HU0.out]; exact HB.out.alloc _
      refine h0.grow1 hg (fun e=>?_)
      rw [e,show u0.heap[_]? = _ from h0] at ho
      cases ho)
     have HG3:Hid (W.grownBy u1 (some kd)):=hid ((HG.out.andThen (by rw [HU0.out]; exact World.grownBy_alloc wr _ none) (fun j e=>by cases e)).andThen hg (fun j e=>.inr e.symm.symm))
     have HK3:Hid (∀ e,K3 e=K1 e\/(K3 e=some (depS xs e)/\Anc xs (x,y) e/\e ≠ (x,y))):=hid (fun e=>by
      rcases hk3 e with h | ⟨h,h'⟩
      ·rw [h]; exact HK2.out e
      ·exact .inr ⟨h,HPK.out.2.2.2.1 e h',fun e1=>HPK.out.1 (by rw [<-e1]; exact h')⟩)
     have HU3:Hid (n3 + 1 + 2 * unk met K3<=n + 2 * unk met K):=hid (by have:=HU.out; omega)
     have HM3:Hid (max m (depS xs (p1,p2) + 1)=((pars.take (k + 1)).map fun p=>depS xs p + 1).foldl max 0):=hid HTK.out.symm
     clear hg hdv3 hk3 hkp hn3 HCALL HDV0 HDV HPD HB HG HK2 HU HM HTK b1 b3 c0 c1 q0 q1 b3a ho HPK HU0 hsz
     generalize depS xs (p1,p2)=dp at HM3 hdp
     have hmx:(m:Int)<=501:=by omega
     have HMX:Hid (∀ z:Int,z=(max m (dp + 1):Nat)->z=((max m (dp + 1):Nat):Int)):=hid (fun z h=>h)
     by_cases hlt2:m < dp + 1
     ·have e1:max m (dp + 1)=dp + 1:=by omega
      rw [e1] at HM3
      have hi:(m:Int) < (dp:Int) + 1:=by omega
      go_wp2_with fail
      go_roundw
      case rel=>exact ⟨k + 1,dp + 1,n3,K3,by omega,by go_num,by omega,HM3,by go_num,HDV3,HPD3,HB3,HG3,HU3,HK3⟩
      case measure=>simp [intOf]; omega
     ·have e1:max m (dp + 1)=m:=by omega
      rw [e1] at HM3
      have hi:¬ (m:Int) < (dp:Int) + 1:=by omega
      go_wp2_with fail
      go_roundw
      case rel=>exact ⟨k + 1,m,n3,K3,by omega,by go_num,by omega,HM3,by go_num,HDV3,HPD3,HB3,HG3,HU3,HK3⟩
      case measure=>simp [intOf]; omega
    ·have HR:Hid (m=depS xs (x,y)):=hid (by rw [HM.out,HFIN.out,List.take_of_length_le (by have:=HNP.out; omega)])
     obtain ⟨W4,hrun,hdv4,hg4,hz4⟩:=HDV.out.put (x:=x) (y:=y) hokd (by have:=HU.out; omega) m
     have HX:Hid (GotD1 xs B b nb met A kd n K kb mb db (x,y) W (.returned (.int .i64 (m:Int))) W4):=hid (by
      rw [HR.out] at hdv4 ⊢
      refine ⟨rfl,HG.out.andThen hg4 (fun j e=>.inr e.symm.symm),n2 + 1,_,hdv4,fun e=>?_,by simp,?_⟩
      ·by_cases e1:e=(x,y)
       ·subst e1
        exact .inr ⟨by simp,.refl _⟩
       ·simp only [if_neg e1]
        rcases HK2.out e with h2 | h2
        ·exact .inl (by rw [h2,HKE.out.2 e e1])
        ·exact .inr ⟨h2.1,h2.2.1⟩
      ·have h5:unk met (fun d=>if d=(x,y) then some (depS xs (x,y)) else K2 d)<=unk met K2:=by
        unfold unk
        refine List.countP_mono_left (fun d _ h=>?_)
        by_cases e1:d=(x,y)
        ·simp [e1] at h
        ·simpa [e1] using h
       have:=HU.out
       omega)
     have hkn:¬ (k:Int) < (np:Int):=by omega
     clear HDV HPD HB HG HU HK2 HM HR hdv4 hg4 hz4
     go_wp2_with fail
     go_ret
     exact HX.out
theorem wpList_len_run {P:Program} (w:World) {ops:Array Oper} {rest:List Oper} {o:Oper} {a:Act} {Q:Exit->Act->World->Prop} (hg:o.guard=none) (m:Operand) (t:TypeId) (hop:o.op=Op.call { callee:=Callee.builtin Builtin.len,args:=#[m],argTypes:=#[t] })
  (v:Value) (hm:a.eval m=v) (z:Value) (hr:(Builtin.len_ #[t] o.type #[v]).run P w = .ok z w) (hK:wpList P ops Q rest (a.put o.dst z) w):wpList P ops Q (o :: rest) a w:=by
 refine wpList_plain hg fun K' hK'=>?_
 unfold Oper.wp
 simp [execOp,hop,resolve,invoke,builtin,hm,hr,Result.andThen]
 exact hK' _ _ hK
theorem MapV.len {b n:Nat} {F:Int × Int->Option Value} {W:World} {t e:TypeId} (h:MapV b n F W) (ht:Tryz.prog.underlying t=some (.map 41 e)):∃ z:Nat,z<=n/\∀ ty,(Builtin.len_ #[t] ty #[.map (some b)]).run Tryz.prog W = .ok (.int .i64 (z:Int)) W:=by
 obtain ⟨D,h1,_⟩:=h
 exact ⟨_,h1.size_le,fun ty=>h1.len ht ty⟩
theorem run_mkI (z:Int) (w:World):(Instr.makeMap 105 (some (.int .i64 z))).run Tryz.prog w = .ok (.map (some w.heap.size)) (w.alloc (.map #[] 0)):=by
 simp [Instr.makeMap,run_underlying Tryz.underlying105,asInt,asIntOf,Result.andThen]
theorem RangeV.obj {b r n cnt:Nat} {F:Int × Int->Option Value} {left:Int × Int->Bool} {W:World} (h:RangeV b r n F left cnt W):∃ o,W.heap[r]? = some o/\o.isCells=false:=by
 obtain ⟨D,lf,h1,_⟩:=h
 obtain ⟨es,c,si,se,c0,_,_,_,_,hr,_⟩:=h1
 exact ⟨_,hr,rfl⟩
theorem DV.kept {xs:List Itm} {B b nb kd n kb mb db:Nat} {met:List (Int × Int)} {A:Int × Int->Option Addr × Nat} {K:Int × Int->Option Nat} {W W':World} (h:DV xs B b nb met A kd n K kb mb db W) {r:Nat} (hg:W.grownBy W' (some r)) (hb:r ≠ b) (hk:r ≠ kd) (ho:∃ o,W.heap[r]? = some o/\o.isCells=false):DV xs B b nb met A kd n K kb mb db W':=by
 obtain ⟨o,ho,hc⟩:=ho
 have hbk:∀ {p:Nat} {cs:Array Value} {t:TypeId},BK p cs t W->r ≠ p:=fun hp e=>by
  rw [e,show W.heap[_]? = _ from hp] at ho
  cases ho
  cases hc
 exact ⟨h.vm.kept hg (fun e=>hb (Option.some.inj e)) (fun j e d hd hp ad ha=>by cases e; exact digs_cells (h.vm.pr d hd).1 hp ha ho hc),h.km.kept hg (fun e=>hk (Option.some.inj e).symm),h.k1.grow1 hg (hbk h.k1),h.k2.grow1 hg (hbk h.k2),h.k3.grow1 hg (hbk h.k3),h.ne⟩
structure DL (xs:List Itm) (B:Nat) (w:World) (b nb:Nat) (met:List (Int × Int)) (A:Int × Int->Option Addr × Nat) (kd kb mb db r:Nat) (wr:World):Prop where
 ex:∃ n K left cnt,DV xs B b nb met A kd n K kb mb db wr/\RangeV b r nb (FA xs met A) left cnt wr/\n + 2 * unk met K<=2 * met.length/\(∀ e k,K e=some k->k=depS xs e/\e ∈ met)/\∀ d ∈ met,left d=false->K d=some (depS xs d)
 be:Below w.heap.size w wr
 lk:w.heap.size<=kd
 lr:w.heap.size<=r
 rk:r ≠ kd
 rb:r ≠ b
def GotDx (xs:List Itm) (met:List (Int × Int)) (w:World) (e:Ending) (w':World):Prop:=∃ kd n,e = .returned (.map (some kd))/\MapV kd n (fun d=>if d ∈ met then some (.int .i64 ((depS xs d:Nat):Int)) else none) w'/\w.heap.size<=kd/\Below w.heap.size w w'
theorem depths_any (xs:List Itm) (B b nb:Nat) (met:List (Int × Int)) (A:Int × Int->Option Addr × Nat) (hA:AcyS xs) (hcl:∀ d ∈ met,(commitS xs d).2=0/\∀ p ∈ (commitS xs d).1.pars,p ∈ met) (hok:∀ d ∈ met,OkD d) (hxl:(xs.length:Int)<=500) (hml:(met.length:Int)<=400000) (w:World) (hvm:VM xs B b nb met A w) :
  Calls Tryz.prog 194 #[.map (some b)] w (GotDx xs met w):=by
 have hvm':VM xs w.heap.size b nb (met) A w->True:=fun _=>trivial
 have HCL:=hid hcl
 have HAN:Hid (∀ d ∈ met,∀ e,Anc xs d e->e ∈ met):=hid (fun d hd e he=>by
  induction he with
  | refl=>exact hd
  | step h1 h2 _ ih=>exact ih ((hcl _ hd).2 _ h2))
 have HC:=hid (fun kd kb mb db x y n K W=>depth1_any xs B b nb met A kd kb mb db hA hcl hok hxl (rkS xs (x,y) + 1) x y n K W (by omega))
 have HOK:=hid hok
 obtain ⟨z,hz,hlen⟩:=hvm.mp.len Tryz.underlying199
 have hlen1:=fun (o:Obj) (ty:TypeId)=>((hvm.alloc o).mp.len Tryz.underlying199)
 obtain ⟨W0,hW0⟩:∃ W0,W0=w.alloc (.cells #[.map (some b)] 199):=⟨_,rfl⟩
 obtain ⟨z0,hz0,HLEN⟩:=(show VM xs B b nb met A W0 by rw [hW0]; exact hvm.alloc _).mp.len Tryz.underlying199
 obtain ⟨W4,hW4⟩:∃ W4,W4=((W0.alloc (.map #[] 0)).alloc (.cells #[.map (some (w.heap.size + 1))] 105)).alloc (.cells #[.func (.func 220) #[] #[.pointer (some ⟨w.heap.size + 2,0,none⟩),.pointer (some ⟨w.heap.size,0,none⟩),.pointer (some ⟨w.heap.size + 3,0,none⟩)]] 277):=⟨_,rfl⟩
 have hz0s:W0.heap.size=w.heap.size + 1:=by rw [hW0]; simp
 have hbl:=hvm.mp.lt
 have HD4:Hid (DV xs B b nb met A (w.heap.size + 1) 0 (fun _=>none) (w.heap.size + 2) w.heap.size (w.heap.size + 3) W4):=hid (by
  rw [hW4]
  refine ⟨?_,?_,?_,?_,?_,by omega⟩
  ·exact (((show VM xs B b nb met A W0 by rw [hW0]; exact hvm.alloc _).alloc _).alloc _).alloc _
  ·have h1:=((MapV.made W0).alloc (.cells #[.map (some (w.heap.size + 1))] 105)).alloc (.cells #[.func (.func 220) #[] #[.pointer (some ⟨w.heap.size + 2,0,none⟩),.pointer (some ⟨w.heap.size,0,none⟩),.pointer (some ⟨w.heap.size + 3,0,none⟩)]] 277)
   rw [hz0s] at h1
   exact h1.eq (fun d=>rfl)
  ·have h1:=(BK.new (W0.alloc (.map #[] 0)) #[.map (some (w.heap.size + 1))] 105).alloc (.cells #[.func (.func 220) #[] #[.pointer (some ⟨w.heap.size + 2,0,none⟩),.pointer (some ⟨w.heap.size,0,none⟩),.pointer (some ⟨w.heap.size + 3,0,none⟩)]] 277)
   rw [World.size_alloc,hz0s] at h1
   exact h1
  ·exact (((show BK w.heap.size #[.map (some b)] 199 W0 by rw [hW0]; exact BK.new _ _ _).alloc _).alloc _).alloc _
  ·have h1:=BK.new ((W0.alloc (.map #[] 0)).alloc (.cells #[.map (some (w.heap.size + 1))] 105)) #[.func (.func 220) #[] #[.pointer (some ⟨w.heap.size + 2,0,none⟩),.pointer (some ⟨w.heap.size,0,none⟩),.pointer (some ⟨w.heap.size + 3,0,none⟩)]] 277
   rw [World.size_alloc,World.size_alloc,hz0s] at h1
   exact h1)
 have HB4:Hid (Below w.heap.size w W4):=hid (by
  rw [hW4,hW0]
  exact ((((Below.refl _ w).alloc (Nat.le_refl _) _).alloc (by simp) _).alloc (by simp; omega) _).alloc (by simp; omega) _)
 have hz4s:W4.heap.size=w.heap.size + 4:=by rw [hW4]; simp; omega
 obtain ⟨W5,hrange,⟨cnt,hcnt,hrg⟩,hg5,hz5⟩:=HD4.out.vm.mp.range Tryz.underlying199
 rw [hz4s] at hrange hrg
 have HB5:Hid (Below w.heap.size w W5):=hid (HB4.out.grown hg5 HB4.out.size (fun j e=>by cases e))
 have HL0:Hid (DL xs B w b nb met A (w.heap.size + 1) (w.heap.size + 2) w.heap.size (w.heap.size + 3) (w.heap.size + 4) W5):=Lib.hid
  ⟨⟨0,fun _=>none,_,cnt,HD4.out.below ⟨hg5.os,hg5.tape,hg5.output,hg5.size,fun k hk=>hg5.block k hk (by simp)⟩,hrg,by unfold unk; have:=List.countP_le_length (p:=fun d:Int × Int=>((fun _=>none:Int × Int->Option Nat) d).isNone) (l:=met); omega,fun e k h=>by simp at h,fun d hd h=>by simp [FA,hd] at h⟩,HB5.out,by omega,by omega,by omega,by omega⟩
 rw [hW4,hW0] at hrange
 rw [hW0] at HLEN
 have HRANGE:=hid hrange
 have HLN:=hid HLEN
 have hmk:=run_mkI
 have hww:=hvm.mp.lt
 clear hW4 hW0 hrange HLEN hrg hg5 hz5 hlen hlen1 HD4 HB4 HB5 hvm hvm' hz0s hz4s hcl hok hA W0 W4
 have hr:=HRANGE.out
 go_enter Tryz.func194,Tryz.ntmps194
 go_wp2_with (at_len; refine wpList_len_run _ rfl _ _ rfl _ rfl _ (HLN.out _) ?_)
 clear hr HRANGE HLN
 go_loopw [5] (fun _ wr=>Hid (DL xs B w b nb met A (w.heap.size + 1) (w.heap.size + 2) w.heap.size (w.heap.size + 3) (w.heap.size + 4) wr)) (fun _ wr=>wr.rangeLeft b (w.heap.size + 4))
 case atStart=>exact HL0
 case round=>
  clear HL0
  obtain ⟨⟨n,K,left,cnt,hdv,hrg,hn,hK,hleft⟩,hbe,hlk,hlr,hrk,hrb⟩:=hrel.out
  have HDV:=hid hdv
  have HK:=hid hK
  have HLF:=hid hleft
  have HRG:=hid hrg
  have HBE:=hid hbe
  have hcl2:=hrg.left_eq
  have HCNT:=hid hcl2
  rcases hrg.next 0 with ⟨hl,hrun⟩ | ⟨x,y,v,W6,cnt2,hokd,hlx,hFx,hrun,hrg6,hlt,hg6,hz6,hen⟩
  ·have HX:Hid (GotDx xs met w (.returned (.map (some (w.heap.size + 1)))) wr):=hid ⟨w.heap.size + 1,n,rfl,hdv.km.eq (fun d=>by
    unfold FK
    by_cases hd:d ∈ met
    ·rw [if_pos hd,hleft d hd (hl d (HOK.out d hd))]; rfl
    ·rw [if_neg hd]
     cases hk:K d with
     | none=>rfl
     | some k=>exact absurd (hK d k hk).2 hd),hlk,hbe⟩
   have b1:wr.cell? ⟨w.heap.size + 2,0,none⟩=some (.map (some (w.heap.size + 1))):=by rw [hdv.k1.cell]; rfl
   clear hdv hrg hn hK hleft hbe hlk hlr hrk hrb hrel HDV HK HLF HRG HBE hcl2 HCNT hl
   go_wp2_with fail
   go_ret
   exact HX.out
  ·have hmem:(x,y) ∈ met:=by
    unfold FA at hFx
    by_cases h:(x,y) ∈ met
    ·exact h
    ·rw [if_neg h] at hFx; cases hFx
   have hdv6:=hdv.kept hg6 hrb hrk hrg.obj
   have hbe6:Below w.heap.size w W6:=hbe.grown hg6 hbe.size (fun j e=>by cases e; exact hlr)
   obtain ⟨u0,hu0⟩:∃ u0,u0=W6.alloc (.cells #[.int .u64 x,.int .u64 y] 41):=⟨_,rfl⟩
   have HDV0:Hid (DV xs B b nb met A (w.heap.size + 1) n K (w.heap.size + 2) w.heap.size (w.heap.size + 3) u0):=hid (by rw [hu0]; exact hdv6.alloc _)
   have HRG0:Hid (RangeV b (w.heap.size + 4) nb (FA xs met A) (fun d=>left d && !decide (d=(x,y))) cnt2 u0):=hid (by rw [hu0]; exact hrg6.alloc _)
   have HBE0:Hid (Below w.heap.size w u0):=hid (by rw [hu0]; exact hbe6.alloc hbe6.size _)
   have HCALL:=hid (HC.out (w.heap.size + 1) (w.heap.size + 2) w.heap.size (w.heap.size + 3) x y n K u0 hmem HDV0.out (by omega) (fun e _ k hk=>(hK e k hk).1))
   rw [hu0] at HCALL
   have HU0:=hid hu0
   have b3:W6.cell? ⟨w.heap.size + 3,0,none⟩=some (.func (.func 220) #[] #[.pointer (some ⟨w.heap.size + 2,0,none⟩),.pointer (some ⟨w.heap.size,0,none⟩),.pointer (some ⟨w.heap.size + 3,0,none⟩)]):=by rw [hdv6.k3.cell]; rfl
   have b3a:=fun o=>cell_a1 b3 o
   have HMEM:=hid hmem
   have HN:=hid hn
   have HLT:=hid hlt
   clear hdv hrg hn hK hleft hbe hrel HDV HRG HBE hcl2 hmem hdv6 hbe6 hrg6 hg6 hu0 hlt hlx hFx
   go_wp2_with fail
   refine (HCALL.out).mono ?_
   rintro e u1 ⟨rfl,hg,n3,K3,hdv3,hk3,hkp,hn3⟩
   rw [<-HU0.out] at hg
   have HNEW:Hid (DL xs B w b nb met A (w.heap.size + 1) (w.heap.size + 2) w.heap.size (w.heap.size + 3) (w.heap.size + 4) u1/\u1.rangeLeft b (w.heap.size + 4)=cnt2):=hid (by
    have hrg1:=HRG0.out.kept hg (fun e=>by have:=Option.some.inj e; omega) (fun e=>hrk (Option.some.inj e))
    refine ⟨⟨⟨n3,K3,_,cnt2,hdv3,hrg1,by have:=HN.out; omega,fun e k hk=>?_,fun d hd hl=>?_⟩,HBE0.out.grown hg HBE0.out.size (fun j e=>by cases e; exact hlk),hlk,hlr,hrk,hrb⟩,hrg1.left_eq⟩
    ·rcases hk3 e with h | ⟨h,h'⟩
     ·rw [h] at hk; exact HK.out e k hk
     ·rw [h] at hk
      exact ⟨(Option.some.inj hk).symm,HAN.out _ HMEM.out e h'⟩
    ·by_cases e1:d=(x,y)
     ·rw [e1]; exact hkp
     ·have h5:left d=false:=by simpa [e1] using hl
      have h6:=HLF.out d hd h5
      rcases hk3 d with h | ⟨h,_⟩
      ·rw [h]; exact h6
      ·exact h)
   have HDL:=hid HNEW.out.1
   have HRL:=hid HNEW.out.2
   clear HNEW hg hdv3 hk3 hkp hn3 HCALL HDV0 HRG0 HBE0 HU0 b3 b3a hrun hen hz6
   go_wp2_with fail
   go_roundw
   case rel=>exact HDL
   case measure=>rw [HRL.out,HCNT.out]; exact HLT.out
open Go.RowKit Go.Shelf Go.Sort
theorem isNaNi_any (x:Int) (w:World):Calls Tryz.prog 221 #[.int .i64 x] w fun e w'=>e = .returned (.bool false)/\w=w':=by
 have h:(x != x)=false:=by simp
 go_enter Tryz.func221,Tryz.ntmps221
 go_wp2_with fail
 go_ret
 exact ⟨rfl,rfl⟩
theorem cmpN_any (x y:Int) (w:World):Calls Tryz.prog 196 #[.int .i64 x,.int .i64 y] w fun e w'=>e = .returned (.int .i64 (cmpI x y))/\w=w':=by
 have HN:=hid isNaNi_any
 obtain ⟨R,hR⟩:∃ R,R=cmpI x y:=⟨_,rfl⟩
 rw [<-hR]
 have HR:Hid (R=if x < y then -1 else if y < x then 1 else 0):=hid hR
 clear hR
 by_cases h1:x < y
 ·have HF:Hid (R = -1):=hid (by rw [HR.out,if_pos h1])
  have d1:decide (x < y)=true:=by simpa using h1
  clear HR h1
  go_enter Tryz.func196,Tryz.ntmps196
  go_wp2_with fail
  (with_reducible refine (HN.out _ _).mono ?_)
  rintro e w' ⟨rfl,rfl⟩
  go_wp2_with fail
  (with_reducible refine (HN.out _ _).mono ?_)
  rintro e w' ⟨rfl,rfl⟩
  go_wp2_with fail
  go_ret
  exact ⟨by rw [HF.out]; rfl,rfl⟩
 ·have d1:decide (x < y)=false:=by simpa using h1
  by_cases h2:y < x
  ·have HF:Hid (R=1):=hid (by rw [HR.out,if_neg h1,if_pos h2])
   have d2:decide (y < x)=true:=by simpa using h2
   clear HR h1 h2
   go_enter Tryz.func196,Tryz.ntmps196
   go_wp2_with fail
   (with_reducible refine (HN.out _ _).mono ?_)
   rintro e w' ⟨rfl,rfl⟩
   go_wp2_with fail
   (with_reducible refine (HN.out _ _).mono ?_)
   rintro e w' ⟨rfl,rfl⟩
   go_wp2_with fail
   go_ret
   exact ⟨by rw [HF.out]; rfl,rfl⟩
  ·have HF:Hid (R=0):=hid (by rw [HR.out,if_neg h1,if_neg h2])
   have d2:decide (y < x)=false:=by simpa using h2
   clear HR h1 h2
   go_enter Tryz.func196,Tryz.ntmps196
   go_wp2_with fail
   (with_reducible refine (HN.out _ _).mono ?_)
   rintro e w' ⟨rfl,rfl⟩
   go_wp2_with fail
   (with_reducible refine (HN.out _ _).mono ?_)
   rintro e w' ⟨rfl,rfl⟩
   go_wp2_with fail
   go_ret
   exact ⟨by rw [HF.out]; rfl,rfl⟩
theorem Laid.trans {a b c:World} (h:Laid a b) (k:Laid b c):Laid a c:=by
 obtain ⟨q,os,rfl⟩:=h
 obtain ⟨q',os',rfl⟩:=k
 exact ⟨q + q',os ++ os',by unfold grow World.drewN; simp [Array.append_assoc,Nat.add_assoc]⟩
theorem Laid.trans' {a b c:World} (k:Laid b c) (h:Laid a b):Laid a c:=h.trans k
theorem cmpH_eq (dep:Int × Int->Nat) (a b:Int × Int):(if cmpI (dep b:Int) (dep a:Int) ≠ 0 then cmpI (dep b:Int) (dep a:Int) else cmpD a b)=cmpH dep a b:=by
 have e:cmpI (dep b:Int) (dep a:Int)=if dep b < dep a then -1 else if dep a < dep b then 1 else 0:=by
  unfold cmpI
  by_cases h1:dep b < dep a
  ·rw [if_pos (by omega),if_pos h1]
  ·rw [if_neg (by omega),if_neg h1]
   by_cases h2:dep a < dep b
   ·rw [if_pos (by omega),if_pos h2]
   ·rw [if_neg (by omega),if_neg h2]
 rw [e]
 unfold cmpH
 by_cases h1:dep b < dep a
 ·rw [if_pos h1,if_pos h1]; rfl
 ·rw [if_neg h1,if_neg h1]
  by_cases h2:dep a < dep b
  ·rw [if_pos h2,if_pos h2]; rfl
  ·rw [if_neg h2,if_neg h2]; rfl
theorem sorted1_any (F:Int × Int->Option Value) (dep:Int × Int->Nat) (pb kd n:Nat) (x y x' y':Int) (w:World) (hk:BK pb #[.map (some kd)] 105 w) (hm:MapV kd n F w) (h1:OkD (x,y)) (h2:OkD (x',y')) (hF1:(F (x,y)).getD (.int .i64 0) = .int .i64 (dep (x,y):Int)) (hF2:(F (x',y')).getD (.int .i64 0) = .int .i64 (dep (x',y'):Int)) :
  Calls Tryz.prog 195 #[.agg #[.int .u64 x,.int .u64 y],.agg #[.int .u64 x',.int .u64 y'],.pointer (some ⟨pb,0,none⟩)] w fun e w'=>e = .returned (.int .i64 (cmpH dep (x,y) (x',y')))/\Laid w w':=by
 obtain ⟨R,hR⟩:∃ R,R=cmpH dep (x,y) (x',y'):=⟨_,rfl⟩
 rw [<-hR]
 rw [<-cmpH_eq] at hR
 generalize hda:dep (x,y)=da at hF1 hR
 generalize hdb:dep (x',y')=db at hF2 hR
 clear hda hdb
 have H1:=hid (fun W=>cmpN_any (db:Int) (da:Int) W)
 have H2:=hid (fun W=>cmpD_any x y x' y' W)
 generalize cmpI (db:Int) (da:Int)=c1 at hR H1
 generalize cmpD (x,y) (x',y')=c2 at hR H2
 have HO:=hid (fun b W h0 h1=>or_any b 2 c1 c2 W h0 h1)
 rw [<-hR] at HO
 clear hR
 obtain ⟨w0,hw0⟩:∃ w0,w0=(w.alloc (.cells #[.int .u64 x,.int .u64 y] 41)).alloc (.cells #[.int .u64 x',.int .u64 y'] 41):=⟨_,rfl⟩
 have HL0:Hid (Laid w w0):=hid (by rw [hw0]; exact ((Laid.refl w).alloc _).alloc _)
 have HALL:Hid (∀ w',Laid w0 w'->Laid w0 w'/\w'.cell? ⟨w.heap.size,0,none⟩=some (.int .u64 x)/\w'.cell? ⟨w.heap.size,1,none⟩=some (.int .u64 y)/\w'.cell? ⟨w.heap.size + 1,0,none⟩=some (.int .u64 x')/\w'.cell? ⟨w.heap.size + 1,1,none⟩=some (.int .u64 y')/\w'.cell? ⟨pb,0,none⟩=some (.map (some kd))/\
   (Instr.lookup 105 (.map (some kd)) (.agg #[.int .u64 x,.int .u64 y]) false).run Tryz.prog w' = .ok (.int .i64 (da:Int)) w'/\(Instr.lookup 105 (.map (some kd)) (.agg #[.int .u64 x',.int .u64 y']) false).run Tryz.prog w' = .ok (.int .i64 (db:Int)) w'):=hid (fun w' hl=>by
  have hb:=hl.below
  have k1:BK w.heap.size #[.int .u64 x,.int .u64 y] 41 w':=(show BK w.heap.size #[.int .u64 x,.int .u64 y] 41 w0 by rw [hw0]; exact (BK.new _ _ _).alloc _).below hb
  have k2:BK (w.heap.size + 1) #[.int .u64 x',.int .u64 y'] 41 w':=(show BK (w.heap.size + 1) #[.int .u64 x',.int .u64 y'] 41 w0 by rw [hw0]; exact BK.new2 _ _ _ _).below hb
  have k3:BK pb #[.map (some kd)] 105 w':=(show BK pb #[.map (some kd)] 105 w0 by rw [hw0]; exact (hk.alloc _).alloc _).below hb
  have k4:MapV kd n F w':=(show MapV kd n F w0 by rw [hw0]; exact (hm.alloc _).alloc _).below hb
  refine ⟨hl,by rw [k1.cell]; rfl,by rw [k1.cell]; rfl,by rw [k2.cell]; rfl,by rw [k2.cell]; rfl,by rw [k3.cell]; rfl,?_,?_⟩
  ·rw [<-hF1]; exact k4.look Tryz.underlying105 (zeroI w') h1
  ·rw [<-hF2]; exact k4.look Tryz.underlying105 (zeroI w') h2)
 have HS0:=hid (HALL.out w0.drew ((Laid.refl w0).drew))
 have HW0:=hid hw0
 clear hw0 hk hm h1 h2 hF1 hF2
 go_enter Tryz.func195,Tryz.ntmps195
 go_wp2_with fail
 rw [<-HW0.out]
 have hs0:=HS0.out
 go_region_held3 (fun w'=>Laid w0 w'/\w'.cell? ⟨w.heap.size,0,none⟩=some (.int .u64 x)/\w'.cell? ⟨w.heap.size,1,none⟩=some (.int .u64 y)/\w'.cell? ⟨w.heap.size + 1,0,none⟩=some (.int .u64 x')/\w'.cell? ⟨w.heap.size + 1,1,none⟩=some (.int .u64 y')/\w'.cell? ⟨pb,0,none⟩=some (.map (some kd))/\
   (Instr.lookup 105 (.map (some kd)) (.agg #[.int .u64 x,.int .u64 y]) false).run Tryz.prog w' = .ok (.int .i64 (da:Int)) w'/\(Instr.lookup 105 (.map (some kd)) (.agg #[.int .u64 x',.int .u64 y']) false).run Tryz.prog w' = .ok (.int .i64 (db:Int)) w')
  (first | exact HS0.out | assumption | (refine HALL.out _ (Laid.alloc ?_ _); first | assumption | exact (‹Laid _ _/\_›).1 | exact HS0.out.1) | (refine HALL.out _ (Laid.trans' (by assumption) ?_); first | assumption | exact (‹Laid _ _/\_›).1 | exact HS0.out.1))
  (first | ((with_reducible refine (H1.out _).mono ?_); rintro e w' ⟨rfl,rfl⟩) | ((with_reducible refine (H2.out _).mono ?_); rintro e w' ⟨rfl,hla⟩) | ((with_reducible refine (HO.out _ _ ?_ ?_).mono ?_); (simp [go_sem]); (simp [go_sem]); rintro e w' ⟨rfl,rfl⟩) | fail)
 all_goals (go_wp2_with fail; go_ret; exact ⟨rfl,HL0.out.trans (‹Laid w0 (World.alloc _ _)/\_›).1⟩)
abbrev DOk:={ d:Int × Int // OkD d }
instance:Inhabited DOk:=⟨⟨(0,0),OkD_zero⟩⟩
def encS (d:DOk):List Value:=encD d.1
theorem flat_encS (L:List DOk):flatK encS 2 L.toArray=(dcells (L.map (fun d=>d.1))).toArray:=by
 rw [<-flat_dcells]
 apply Array.ext
 ·simp
 ·intro t h1 h2
  have ht:t < L.length * 2:=by simpa using h1
  have e1:=get_flatK encS 2 L.toArray t (by simpa using ht)
  have e2:=get_flatK encD 2 (L.map (fun d=>d.1)).toArray t (by simpa using ht)
  rw [getElem!_pos _ t h1] at e1
  rw [getElem!_pos _ t h2] at e2
  rw [e1,e2]
  have hi:t / 2 < L.length:=by omega
  rw [getElem!_pos (L.toArray) _ (by simpa using hi),getElem!_pos ((L.map (fun d=>d.1)).toArray) _ (by simpa using hi)]
  simp [encS]
theorem cmpH_tot (dep:Int × Int->Nat):∀ x y:DOk,ltOf (fun x y:DOk=>cmpH dep x.1 y.1) x y=false->ltOf (fun x y:DOk=>cmpH dep x.1 y.1) y x=false->x=y:=by
 intro x y h1 h2
 unfold ltOf at *
 simp only [decide_eq_false_iff_not,cmpH_lt] at *
 refine Subtype.ext (totD _ _ ?_ ?_)
 ·unfold ltOf; rw [decide_eq_false_iff_not]; omega
 ·unfold ltOf; rw [decide_eq_false_iff_not]; omega
theorem swoS (dep:Int × Int->Nat):SWO (ltOf (fun x y:DOk=>cmpH dep x.1 y.1)) where
 irrefl x:=(swoH dep).irrefl x.1
 trans x y z:=(swoH dep).trans x.1 y.1 z.1
 ntrans x y z:=(swoH dep).ntrans x.1 y.1 z.1
theorem sortH_any {base:Nat} (a:Option Addr) (ds:List (Int × Int)) (c:Nat) (w:World) (ho:w.ownsRow base 41 2 (.slice a ds.length c) ds.length (dcells ds)) (hn:(ds.length:Int)<=1000000000) (hok:∀ d ∈ ds,OkD d)
  (F:Int × Int->Option Value) (dep:Int × Int->Nat) (pb kd n:Nat) (hk:BK pb #[.map (some kd)] 105 w) (hm:MapV kd n F w) (hF:∀ d,OkD d->(F d).getD (.int .i64 0) = .int .i64 (dep d:Int)) (hpb:(Value.slice a ds.length c).ownBlock ≠ some pb) :
  Calls Tryz.prog 191 #[.slice a ds.length c,.func (.func 195) #[] #[.pointer (some ⟨pb,0,none⟩)]] w fun e w'=>e = .returned (.tuple #[])/\w'.ownsRow base 41 2 (.slice a ds.length c) ds.length (dcells (sortH dep ds))/\w.grownBy w' (Value.slice a ds.length c).ownBlock:=by
 rcases ho.2 with ⟨h1,h2⟩ | ⟨g,cap,cur,h1,hbase,hg,hcap,hmax,hcs,htake⟩
 ·have hd:ds=[]:=List.eq_nil_of_length_eq_zero h2
  subst hd
  have:=AnyF.slices_SortFunc_none Tryz.sortD a c (.func (.func 195) #[] #[.pointer (some ⟨pb,0,none⟩)]) w
  refine Calls.mono this fun e w' ⟨he,hw⟩=>⟨he,?_,?_⟩
  ·rw [hw,show sortH dep []=[] by simp [sortH]]; exact ho
  ·rw [hw]; exact ⟨rfl,rfl,rfl,Nat.le_refl _,fun _ _ _=>rfl⟩
 ·cases h1
  obtain ⟨L,hL⟩:∃ L:List DOk,L.map (fun d=>d.1)=ds:=⟨ds.pmap Subtype.mk hok,by rw [List.map_pmap]; simp⟩
  have hLl:L.length=ds.length:=by rw [<-hL]; simp
  have eg:∀ args w,(callFunc 195 args).run Tryz.prog w = .ok (.enter 195 args) w:=enters_of Tryz.func195 (by kernel_rfl) rfl
  have hH:HoldsK encS 2 w g 0 L.toArray:=by
   unfold HoldsK
   rw [flat_encS,hL]
   intro j hj
   have hj':j < (dcells ds).length:=by simpa using hj
   refine ⟨?_,Lib.frozen_of_heap hg _⟩
   rw [Lib.cell_of_heap hg,Nat.zero_add]
   have h3:(cur.toList.take (ds.length * 2))[j]? = (dcells ds)[j]?:=by rw [htake]
   rw [List.getElem?_take_of_lt (by rw [dcells_length] at hj'; exact hj'),Array.getElem?_toList] at h3
   rw [h3,List.getElem?_eq_getElem hj',getElem!_pos _ j hj]
   simp
  have hcl:CmpLays Tryz.prog 195 #[.pointer (some ⟨pb,0,none⟩)] encS 2 (fun x y:DOk=>cmpH dep x.1 y.1) g 0 L.toArray.size w:=by
   intro m os dk _ x y
   have hgr:w.grownBy (sortWorldK encS 2 w g 0 m dk os) (some g):=by
    unfold sortWorldK putRowK
    exact grownBy_sortedD _
   obtain ⟨es,cl,hob⟩:=hm.obj
   have h1:MapV kd n F (sortWorldK encS 2 w g 0 m dk os):=hm.kept hgr (fun e=>by
    have:=Option.some.inj e
    subst this
    rw [hg] at hob
    cases hob)
   have h2:BK pb #[.map (some kd)] 105 (sortWorldK encS 2 w g 0 m dk os):=hk.grow1 hgr (fun e=>hpb (by rw [e]; rfl))
   exact sorted1_any F dep pb kd n x.1.1 x.1.2 y.1.1 y.1.2 _ h2 h1 x.2 y.2 (hF _ x.2) (hF _ y.2)
  have hcon:=AnyQ.slices_SortFunc_total Tryz.sortD 2 Tryz.isAgg41 Tryz.sizeOf41 encS (fun _=>rfl) (fun x v hv=>by simp [encS,encD] at hv; rcases hv with rfl | rfl <;> rfl) (fun x y:DOk=>cmpH dep x.1 y.1) (swoS dep) 195 #[.pointer (some ⟨pb,0,none⟩)] g 0 c L.toArray w eg hcl hH (Array.getElem?_eq_some_iff.1 hg).1 (by simp; omega) (cmpH_tot dep)
  have hcon2:Calls Tryz.prog 191 #[.slice (some ⟨g,0,none⟩) L.toArray.size c,.func (.func 195) #[] #[.pointer (some ⟨pb,0,none⟩)]] w _:=hcon
  rw [show L.toArray.size=ds.length by simp [hLl]] at hcon2
  refine hcon2.mono fun e w' ⟨he,n,os,hw⟩=>⟨he,?_,?_⟩
  ·rw [hw]
   unfold sortWorldK putRowK
   have hl:(sortH dep ds).length=ds.length:=(sortH_perm dep ds).length_eq
   rw [flat_encS]
   have hmm:(L.toArray.toList.mergeSort fun x y=>!(ltOf (fun x y:DOk=>cmpH dep x.1 y.1)) y x).map (fun d=>d.1)=sortH dep ds:=by
    unfold sortH
    rw [<-hL]
    exact List.map_mergeSort (fun a _ b _=>rfl)
   rw [hmm]
   have hl2:(dcells (sortH dep ds)).length=ds.length * 2:=by rw [dcells_length,hl]
   exact ⟨hl2,.inr ⟨g,c,_,rfl,hbase,heap_sortedD _ hg,hcap,hmax,by simp [putCells,hcs],by rw [<-hl2]; exact take_putCellsD cur _ (by rw [hl2,hcs]; exact Nat.mul_le_mul_right _ hcap)⟩⟩
  ·rw [hw]
   unfold sortWorldK putRowK
   exact grownBy_sortedD _
theorem sortH_congr {dep dep':Int × Int->Nat} {l l':List (Int × Int)} (h1:l.Nodup) (h2:l'.Nodup) (hm:∀ d,d ∈ l ↔ d ∈ l') (hd:∀ d ∈ l,dep d=dep' d):sortH dep l=sortH dep' l':=by
 have p1:∀ d,d ∈ sortH dep l ↔ d ∈ l:=fun d=>(sortH_perm dep l).mem_iff
 have p2:∀ d,d ∈ sortH dep' l' ↔ d ∈ l':=fun d=>(sortH_perm dep' l').mem_iff
 refine ascH_ext (dep:=dep') ?_ (sortH_asc h2) (fun d=>by rw [p1,p2,hm])
 refine List.Pairwise.imp_of_mem (fun {x y} hx hy h=>?_) (sortH_asc (dep:=dep) h1)
 rw [cmpH_lt] at h ⊢
 rw [<-hd x ((p1 x).1 hx),<-hd y ((p1 y).1 hy)]
 exact h
structure SL (xs:List Itm) (B:Nat) (w:World) (b nb:Nat) (met:List (Int × Int)) (A:Int × Int->Option Addr × Nat) (P:Int × Int->Bool) (Fk:Int × Int->Option Value) (kd nk pb r B1:Nat) (v:Value) (wr:World):Prop where
 ex:∃ L left cnt,RangeV b r nb (FA xs met A) left cnt wr/\wr.ownsRow B1 41 2 v L.length (dcells L)/\(∀ d,d ∈ L ↔ d ∈ met/\left d=false/\P d=true)/\L.Nodup/\L.length<=met.length
 be:Below w.heap.size w wr
 bx:BK pb #[.map (some kd)] 105 wr
 km:MapV kd nk Fk wr
 sz:B1<=wr.heap.size
theorem sorted_any (xs:List Itm) (B b nb:Nat) (met:List (Int × Int)) (A:Int × Int->Option Addr × Nat) (hA:AcyS xs) (hcl:∀ d ∈ met,(commitS xs d).2=0/\∀ p ∈ (commitS xs d).1.pars,p ∈ met) (hok:∀ d ∈ met,OkD d) (hnd:met.Nodup) (hxl:(xs.length:Int)<=500) (hml:(met.length:Int)<=400000) (w:World) (hvm:VM xs B b nb met A w)
  (P:Int × Int->Bool) (g:Nat) (caps:Array Value) (hP:∀ x y W,OkD (x,y)->Below w.heap.size w W->Calls Tryz.prog g (#[.agg #[.int .u64 x,.int .u64 y]] ++ caps) W fun e w'=>e = .returned (.bool (P (x,y)))/\Below W.heap.size W w') (heg:∀ args w,(callFunc g args).run Tryz.prog w = .ok (.enter g args) w) :
  Calls Tryz.prog 137 #[.map (some b),.func (.func g) #[] caps] w (GotDs w (sortH (depS xs) (met.filter P))):=by
 have HDX:=hid (depths_any xs B b nb met A hA hcl hok hxl hml w hvm)
 have HP:=hid hP
 have HOK:=hid hok
 have HND:=hid hnd
 have HVM:=hid hvm
 have hbl:=hvm.mp.lt
 have hegg:=heg
 clear hcl hok hnd hvm hP hA heg
 go_enter Tryz.func137,Tryz.ntmps137
 go_wp2_with fail
 refine (HDX.out).mono ?_
 rintro e W1 ⟨kd,nk,rfl,hkm,hkd,hb1⟩
 obtain ⟨Fk,hFk⟩:∃ Fk:Int × Int->Option Value,Fk=fun d=>if d ∈ met then some (.int .i64 ((depS xs d:Nat):Int)) else none:=⟨_,rfl⟩
 rw [<-hFk] at hkm
 have HFK:Hid (∀ d,OkD d->(Fk d).getD (.int .i64 0) = .int .i64 (((if d ∈ met then depS xs d else 0:Nat)):Int)):=hid (fun d _=>by
  rw [hFk]
  by_cases h:d ∈ met <;> simp [h])
 obtain ⟨W2,hW2⟩:∃ W2,W2=W1.alloc (.cells #[.map (some kd)] 105):=⟨_,rfl⟩
 have hz2:W2.heap.size=W1.heap.size + 1:=by rw [hW2]; simp
 have hb2:Below w.heap.size w W2:=by rw [hW2]; exact hb1.alloc hb1.size _
 have hv2:VM xs B b nb met A W2:=HVM.out.below hb2
 obtain ⟨W3,hrange,⟨cnt,hcnt,hrg⟩,hg3,hz3⟩:=hv2.mp.range Tryz.underlying199
 rw [hz2] at hrange hrg
 have hb23:Below W2.heap.size W2 W3:=⟨hg3.os,hg3.tape,hg3.output,hg3.size,fun k hk=>hg3.block k hk (by simp)⟩
 have HL0:Hid (SL xs B w b nb met A P Fk kd nk W1.heap.size (W1.heap.size + 1) (W1.heap.size + 2) (.slice none 0 0) W3):=Lib.hid
  ⟨⟨[],_,cnt,hrg,World.ownsRow_nil _ _ _ _,fun d=>by
    constructor
    ·intro h; simp at h
    ·rintro ⟨h1,h2,_⟩; simp [FA,h1] at h2,List.nodup_nil,by simp⟩,
   hb2.trans (hb23.mono hb2.size),(show BK W1.heap.size #[.map (some kd)] 105 W2 by rw [hW2]; exact BK.new _ _ _).below hb23,(show MapV kd nk Fk W2 by rw [hW2]; exact hkm.alloc _).below hb23,by omega⟩
 have hs1:=hb1.size
 have hkl:=hkm.lt
 rw [hW2] at hrange
 have hr:=hrange
 clear hW2 hz2 hb2 hv2 hrg hg3 hz3 hb23 hkm hb1 hFk hrange HDX
 go_wp2_with fail
 clear hr
 obtain ⟨S1,hS1⟩:∃ S1,S1=W1.heap.size:=⟨_,rfl⟩
 rw [<-hS1] at HL0 hs1 hkl ⊢
 clear hS1
 go_loopw [6] (fun v wr=>Hid (SL xs B w b nb met A P Fk kd nk S1 (S1 + 1) (S1 + 2) v wr)) (fun _ wr=>wr.rangeLeft b (S1 + 1))
 case atStart=>exact HL0
 case round=>
  clear HL0 W3
  obtain ⟨⟨L,left,cnt2,hrg,hown,hL,hLn,hLl⟩,hbe,hbx,hkm,hsz⟩:=hrel.out
  obtain ⟨va,vc,rfl,hvc⟩:=ownsRow_sliceN hown
  have hcl2:=hrg.left_eq
  have HCNT:=hid hcl2
  rcases hrg.next 0 with ⟨hl,hrun⟩ | ⟨x,y,u,W6,cnt3,hokd,hlx,hFx,hrun,hrg6,hlt,hg6,hz6,hen⟩
  ·have hmem:∀ d,d ∈ L ↔ d ∈ met.filter P:=fun d=>by
    rw [hL d,List.mem_filter]
    constructor
    ·rintro ⟨h1,_,h3⟩; exact ⟨h1,h3⟩
    ·rintro ⟨h1,h3⟩; exact ⟨h1,hl d (HOK.out d h1),h3⟩
   have hLok:∀ d ∈ L,OkD d:=fun d hd=>HOK.out d ((hL d).1 hd).1
   have HSO:=hid (sortH_any va L vc wr hown (by omega) hLok Fk (fun d=>if d ∈ met then depS xs d else 0) S1 kd nk hbx hkm HFK.out (fun e=>by have:=(hown.lt _ e).1; omega))
   have HEQ:Hid (sortH (fun d=>if d ∈ met then depS xs d else 0) L=sortH (depS xs) (met.filter P)/\L.length=(sortH (depS xs) (met.filter P)).length):=hid (by
    have h1:=sortH_congr (dep:=fun d=>if d ∈ met then depS xs d else 0) (dep':=depS xs) hLn (HND.out.filter P) hmem (fun d hd=>by rw [if_pos ((hL d).1 hd).1])
    exact ⟨h1,by rw [<-h1,(sortH_perm _ L).length_eq]⟩)
   have HOW:=hid hown
   have HBE:=hid hbe
   clear hrg hown hL hLn hbe hbx hkm hsz hrel hcl2 HCNT hl hmem hLok
   obtain ⟨ln,hln⟩:∃ ln,ln=L.length:=⟨_,rfl⟩
   rw [<-hln] at HSO HOW HEQ hvc ⊢
   clear hln
   go_wp2_with fail
   refine (HSO.out).mono ?_
   rintro e W7 ⟨rfl,hown7,hg7⟩
   have HX:Hid (GotDs w (sortH (depS xs) (met.filter P)) (.returned (.slice va ln vc)) W7):=hid (by
    rw [HEQ.out.1] at hown7
    refine ⟨va,vc,by rw [HEQ.out.2],?_,HBE.out.grown hg7 HBE.out.size (fun j hj=>by have:=(HOW.out.lt _ hj).1; omega)⟩
    rw [<-HEQ.out.2]
    exact own_le hown7 (by omega))
   clear hown7 hg7
   go_wp2_with fail
   go_ret
   exact HX.out
  ·have hmem:(x,y) ∈ met:=by
    unfold FA at hFx
    by_cases h:(x,y) ∈ met
    ·exact h
    ·rw [if_neg h] at hFx; cases hFx
   obtain ⟨es,cl,hob⟩:=hkm.obj
   obtain ⟨o6,ho6,hc6⟩:=hrg.obj
   have hrk:S1 + 1 ≠ kd:=by omega
   have hbe6:Below w.heap.size w W6:=hbe.grown hg6 hbe.size (fun j e=>by cases e; omega)
   have hown6:W6.ownsRow (S1 + 2) 41 2 (.slice va L.length vc) L.length (dcells L):=own_kept hown hg6 (by omega)
   have hbx6:=hbx.grow1 hg6 (by omega)
   have hkm6:=hkm.kept hg6 (fun e=>hrk (Option.some.inj e).symm)
   obtain ⟨u0,hu0⟩:∃ u0,u0=W6.alloc (.cells #[.int .u64 x,.int .u64 y] 41):=⟨_,rfl⟩
   have hbe0:Below w.heap.size w u0:=by rw [hu0]; exact hbe6.alloc hbe6.size _
   have HCALL:=hid (HP.out x y u0 hokd hbe0)
   have HK0:Hid (BK W6.heap.size #[.int .u64 x,.int .u64 y] 41 u0):=hid (by rw [hu0]; exact BK.new _ _ _)
   have HRG0:Hid (RangeV b (S1 + 1) nb (FA xs met A) (fun d=>left d && !decide (d=(x,y))) cnt3 u0):=hid (by rw [hu0]; exact hrg6.alloc _)
   have HOW0:Hid (u0.ownsRow (S1 + 2) 41 2 (.slice va L.length vc) L.length (dcells L)):=hid (by rw [hu0]; exact hown6.alloc _)
   have HBX0:Hid (BK S1 #[.map (some kd)] 105 u0/\MapV kd nk Fk u0):=hid (by rw [hu0]; exact ⟨hbx6.alloc _,hkm6.alloc _⟩)
   have hz0:u0.heap.size=W6.heap.size + 1:=by rw [hu0]; simp
   have HBE0:=hid hbe0
   rw [hu0] at HCALL
   have HU0:=hid hu0
   have HMEM:=hid hmem
   have HLM:=hid hL
   have HLN:=hid hLn
   have HLT:=hid hlt
   have HLX:=hid hlx
   have hzz:S1 + 2<=u0.heap.size:=by omega
   clear hz6 hz0
   clear hrg hown hL hLn hbe hbx hkm hrel hcl2 hmem hu0 hlt hlx hFx hob ho6 hbe6 hown6 hbx6 hkm6 hrg6 hg6 hbe0
   cases hPx:P (x,y) with
   | false=>
    rw [hPx] at HCALL
    go_wp2_with fail
    refine (HCALL.out).mono ?_
    rintro e u1 ⟨rfl,hb⟩
    rw [<-HU0.out] at hb
    have HNEW:Hid (SL xs B w b nb met A P Fk kd nk S1 (S1 + 1) (S1 + 2) (.slice va L.length vc) u1/\u1.rangeLeft b (S1 + 1)=cnt3):=hid (by
     have hrg1:=HRG0.out.below hb
     refine ⟨⟨⟨L,_,cnt3,hrg1,own_below HOW0.out hb,fun d=>?_,HLN.out,hLl⟩,HBE0.out.trans (hb.mono HBE0.out.size),HBX0.out.1.below hb,HBX0.out.2.below hb,Nat.le_trans hzz hb.size⟩,hrg1.left_eq⟩
     rw [HLM.out d]
     by_cases e1:d=(x,y)
     ·subst e1; simp [hPx]
     ·simp [e1])
    have HDL:=hid HNEW.out.1
    have HRL:=hid HNEW.out.2
    clear HNEW hb HCALL HRG0 HOW0 HBX0 HBE0 HU0 HK0 hrun hen HLM hzz
    go_wp2_with fail
    go_roundw
    case rel=>exact HDL
    case measure=>rw [HRL.out,HCNT.out]; exact HLT.out
   | true=>
    rw [hPx] at HCALL
    go_wp2_with fail
    refine (HCALL.out).mono ?_
    rintro e u1 ⟨rfl,hb⟩
    rw [<-HU0.out] at hb
    have HK1:=hid (HK0.out.below hb)
    have k0:u1.cell? ⟨W6.heap.size,0,none⟩=some (.int .u64 x):=by rw [HK1.out.cell]; rfl
    have k1:u1.cell? ⟨W6.heap.size,1,none⟩=some (.int .u64 y):=by rw [HK1.out.cell]; rfl
    have how1:=own_below HOW0.out hb
    obtain ⟨v',W8,hrun8,hown8,hg8,hat8⟩:=append_one how1 x y (by omega) (Nat.le_trans hzz hb.size)
    have HNEW:Hid (SL xs B w b nb met A P Fk kd nk S1 (S1 + 1) (S1 + 2) v' W8/\W8.rangeLeft b (S1 + 1)=cnt3):=hid (by
     have hwn:∀ j,(Value.slice va L.length vc).ownBlock=some j->S1 + 2<=j:=fun j e=>(how1.lt _ e).1
     have hbu:=((Below.refl _ u1).alloc (Nat.le_refl _) (.cells #[.int .u64 x,.int .u64 y] 41))
     have hrg1:=((HRG0.out.below hb).below hbu).kept hg8 (fun e=>by have:=hwn b e.symm; omega) (fun e=>by have:=hwn _ e.symm; omega)
     have hbe1:=HBE0.out.trans (hb.mono HBE0.out.size)
     refine ⟨⟨⟨L ++ [(x,y)],_,cnt3,hrg1,hown8,fun d=>?_,?_,?_⟩,(hbe1.alloc hbe1.size _).grown hg8 (by have:=hbe1.size; simp; omega) (fun j e=>by have:=hwn j e; omega),((HBX0.out.1.below hb).alloc _).grow hg8 (fun k e=>by have:=hwn k e; omega),((HBX0.out.2.below hb).alloc _).kept hg8 (fun e=>by have:=hwn kd e.symm; omega),by have h5:=hg8.size; rw [World.size_alloc] at h5; have:=hb.size; omega⟩,hrg1.left_eq⟩
     ·rw [List.mem_append,HLM.out d,List.mem_singleton]
      by_cases e1:d=(x,y)
      ·subst e1; simp [hPx,HMEM.out]
      ·simp [e1]
     ·exact nodup_snoc HLN.out (fun h=>by have:=((HLM.out _).1 h).2.1; rw [HLX.out] at this; cases this)
     ·have h8:(L ++ [(x,y)]).Nodup:=nodup_snoc HLN.out (fun h=>by have:=((HLM.out _).1 h).2.1; rw [HLX.out] at this; cases this)
      exact h8.length_le_of_subset (fun d hd=>by
       rcases List.mem_append.1 hd with h | h
       ·exact ((HLM.out d).1 h).1
       ·rw [List.mem_singleton.1 h]; exact HMEM.out))
    have HDL:=hid HNEW.out.1
    have HRL:=hid HNEW.out.2
    have HRUN:=hid hrun8
    clear HNEW hb HCALL HRG0 HOW0 HBX0 HBE0 HU0 HK0 hrun hen HLM hzz how1 hown8 hg8 hat8 hrun8 HK1 HLN
    generalize L.length=ln at HRUN hvc ⊢
    go_wp2_with (at_builtin; refine Lib.wpList_append_run _ rfl _ _ _ _ rfl _ _ rfl rfl _ _ HRUN.out ?_)
    go_roundw
    case rel=>exact HDL
    case measure=>rw [HRL.out,HCNT.out]; exact HLT.out
theorem anc_okD {xs:List Itm} {a b:Int × Int} (h:Anc xs a b) (ha:OkD a):OkD b:=by
 induction h with
 | refl=>exact ha
 | step h1 h2 _ ih=>exact ih (pars_okD h1 _ h2)
structure VFacts (xs:List Itm) (heads met:List (Int × Int)):Prop where
 cl:∀ d ∈ met,(commitS xs d).2=0/\∀ p ∈ (commitS xs d).1.pars,p ∈ met
 ok:∀ d ∈ met,OkD d
 nd:met.Nodup
 le:met.length<=xs.length
theorem vis_facts {xs:List Itm} {heads:List (Int × Int)} (h:(visS xs heads []).2=0) (hok:∀ d ∈ heads,OkD d):VFacts xs heads (visS xs heads []).1:=by
 have g:=visS_law xs _ heads [] (Nat.le_refl _) h
 have hnd:=g.nd (by simp)
 have hcl:∀ d ∈ (visS xs heads []).1,(commitS xs d).2=0/\∀ p ∈ (commitS xs d).1.pars,p ∈ (visS xs heads []).1:=fun d hd=>by
  refine ⟨?_,?_⟩
  ·rcases g.ok d hd with h1 | h1
   ·simp at h1
   ·exact h1
  ·rcases g.par d hd with h1 | h1
   ·simp at h1
   ·exact h1
 refine ⟨hcl,fun d hd=>?_,hnd,?_⟩
 ·rcases g.snd d hd with h1 | ⟨s,h1,h2⟩
  ·simp at h1
  ·exact anc_okD h2 (hok s h1)
 ·have:(visS xs heads []).1.length<=(xs.map (fun x=>x.d)).length:=hnd.length_le_of_subset (fun d hd=>by
   obtain ⟨x,hx,he,_⟩:=getS_good (commit_ok (hcl d hd).1).1
   exact List.mem_map.2 ⟨x,hx,he⟩)
  rwa [List.length_map] at this
def ancS (xs:List Itm) (heads:List (Int × Int)):List (Int × Int) × Int:=if (visS xs heads []).2 ≠ 0 then ([],(visS xs heads []).2) else (sortH (depS xs) (visS xs heads []).1,0)
def reachesS (xs:List Itm) (a b:Int × Int):Bool × Int:=if (visS xs [a] []).2 ≠ 0 then (false,(visS xs [a] []).2) else (decide (b ∈ (visS xs [a] []).1),0)
def GotRo (w:World) (r:List (Int × Int) × Int) (e:Ending) (w':World):Prop:=∃ a c,e = .returned (.tuple #[.slice a r.1.length c,.int .i64 r.2])/\w'.ownsRow w.heap.size 41 2 (.slice a r.1.length c) r.1.length (dcells r.1)/\Below w.heap.size w w'
theorem anc1_any (x y:Int) (w:World):Calls Tryz.prog 138 (#[.agg #[.int .u64 x,.int .u64 y]] ++ #[]) w fun e w'=>e = .returned (.bool true)/\Below w.heap.size w w':=by
 simp only [Array.append_empty]
 go_enter Tryz.func138,Tryz.ntmps138
 go_wp2_with fail
 go_ret
 exact ⟨rfl,(Below.refl _ w).alloc (Nat.le_refl _) _⟩
theorem ancestors_any (a:Option Addr) (xs:List Itm) (c:Nat) (ha:Option Addr) (heads:List (Int × Int)) (hc:Nat) (w:World) (hp:PoolIn w a xs c) (hA:Asc xs) (hac:AcyS xs) (hr:Digs w.heap.size w ha heads) (hok:∀ d ∈ heads,OkD d) (hxl:(xs.length:Int)<=500) (hhl:(heads.length:Int)<=10000) :
  Calls Tryz.prog 80 #[.slice a xs.length c,.slice ha heads.length hc] w (GotRo w (ancS xs heads)):=by
 have hb1:Below w.heap.size w (w.alloc (.map #[] 0)):=(Below.refl _ w).alloc (Nat.le_refl _) _
 have HV:=hid (visit_any w.heap.size a xs c ha heads hc w.heap.size (w.alloc (.map #[] 0)) (fun W hW=>hp.below (hb1.trans hW)) hA (hr.ahead hb1) hok (MapV.made w) (Nat.le_refl _) hb1.size hxl hhl)
 have HB1:=hid hb1
 have HF:=hid (fun h=>vis_facts (xs:=xs) (heads:=heads) h hok)
 have HX:Hid (∃ R,R=ancS xs heads/\R=if (visS xs heads []).2 ≠ 0 then ([],(visS xs heads []).2) else (sortH (depS xs) (visS xs heads []).1,0)):=hid ⟨_,rfl,rfl⟩
 obtain ⟨R,hR1,hR2⟩:=HX.out
 rw [<-hR1]
 unfold GotV at HV
 generalize visS xs heads []=VR at HV HF hR2
 obtain ⟨met,er⟩:=VR
 simp only at HV HF hR2
 have HR:=hid hR2
 have hmm:=@run_makeMap Tryz.prog
 obtain ⟨n,hn⟩:∃ n,n=xs.length:=⟨_,rfl⟩
 obtain ⟨hn2,hhn⟩:∃ k,k=heads.length:=⟨_,rfl⟩
 rw [<-hn] at HV ⊢
 rw [<-hhn] at HV ⊢
 have HN:=hid hn
 clear hp hA hr hok hb1 hR1 hR2 HX hn hhn
 go_enter Tryz.func80,Tryz.ntmps80
 go_wp2_with fail
 refine (HV.out).mono ?_
 rintro e W2 ⟨rfl,hg,hvm⟩
 have HB2:Hid (Below w.heap.size w W2):=hid (HB1.out.grown hg HB1.out.size (fun j e=>by cases e; exact Nat.le_refl _))
 by_cases he:er=0
 ·subst he
  obtain ⟨nn,A,_,hv⟩:=hvm rfl
  have hf:=HF.out rfl
  have HSO:=hid (sorted_any xs _ w.heap.size nn met A hac hf.cl hf.ok hf.nd hxl (by have:=hf.le; omega) W2 hv (fun _=>true) 138 #[] (fun x y W _ _=>anc1_any x y W) (enters_of Tryz.func138 (by kernel_rfl) rfl))
  have HR2:Hid (R=(sortH (depS xs) met,0)):=hid (by rw [HR.out]; simp)
  rw [show met.filter (fun _=>true)=met by simp] at HSO
  clear hg hvm hv hf HV HF HR
  go_wp2_with fail
  refine (HSO.out).mono ?_
  rintro e W3 ⟨sa,sc,rfl,hown,hb3⟩
  have HX:Hid (GotRo w R (.returned (.tuple #[.slice sa (sortH (depS xs) met).length sc,.int .i64 0])) W3):=hid (by
   rw [HR2.out]
   exact ⟨sa,sc,rfl,own_le hown HB2.out.size,HB2.out.trans (hb3.mono HB2.out.size)⟩)
  clear hown hb3 HSO
  generalize (sortH (depS xs) met).length=ln at HX ⊢
  go_wp2_with fail
  go_ret2
  exact HX.out
 ·have hee:(er != 0)=true:=by simpa using he
  have HX:Hid (GotRo w R (.returned (.tuple #[.slice none 0 0,.int .i64 er])) W2):=hid (by
   rw [HR.out,if_pos he]
   exact ⟨none,0,rfl,World.ownsRow_nil _ _ _ _,HB2.out⟩)
  clear he hg hvm HV HF HR
  go_wp2_with fail
  go_ret2
  exact HX.out
theorem MapD.obj {b n:Nat} {M:Int × Int->Bool} {W:World} (h:MapD b n M W):∃ es c,W.heap[b]? = some (.map es c):=by
 obtain ⟨D,⟨es,c,hb,_⟩,_⟩:=h
 exact ⟨es,c,hb⟩
open Classical in
structure B1 (xs:List Itm) (w:World) (b1 n1:Nat) (l:List (Int × Int)) (A1:Int × Int->Option Addr × Nat) (b2 n2:Nat) (r:List (Int × Int)) (A2:Int × Int->Option Addr × Nat) (wd ri N1:Nat) (left:Int × Int->Bool) (cnt n:Nat) (M:Int × Int->Bool) (wr:World):Prop where
 rg:RangeV b1 ri n1 (FA xs l A1) left cnt wr
 v1:VM xs w.heap.size b1 n1 l A1 wr
 v2:VM xs w.heap.size b2 n2 r A2 wr
 mp:MapD wd n M wr
 be:Below N1 w wr
 nn:n + 200 * cnt<=400000000
section
variable {xs:List Itm} {w wr wr':World} {b1 n1 b2 n2 wd ri N1 cnt n:Nat} {l r:List (Int × Int)} {A1 A2:Int × Int->Option Addr × Nat} {left:Int × Int->Bool} {M:Int × Int->Bool}
theorem B1.below (h:B1 xs w b1 n1 l A1 b2 n2 r A2 wd ri N1 left cnt n M wr) (hN:N1<=wr.heap.size) (hb:Below wr.heap.size wr wr'):B1 xs w b1 n1 l A1 b2 n2 r A2 wd ri N1 left cnt n M wr':=⟨h.rg.below hb,h.v1.below hb,h.v2.below hb,h.mp.below hb,h.be.trans (hb.mono hN),h.nn⟩
theorem B1.put (h:B1 xs w b1 n1 l A1 b2 n2 r A2 wd ri N1 left cnt n M wr) {x y:Int} (hd:OkD (x,y)) (hN:N1<=wd) (hw:N1<=wr.heap.size) (h1:wd ≠ b1) (h2:wd ≠ b2) (h3:wd ≠ ri) (hn:n + 1 + 200 * cnt<=400000000) :
  ∃ W',(Instr.mapUpdate 83 (.map (some wd)) (.agg #[.int .u64 x,.int .u64 y]) (.bool true)).run Tryz.prog wr = .ok () W'/\B1 xs w b1 n1 l A1 b2 n2 r A2 wd ri N1 left cnt (n + 1) (fun d=>M d || decide (d=(x,y))) W'/\wr.grownBy W' (some wd):=by
 obtain ⟨W',hrun,hm,hg⟩:=h.mp.put hd (by omega)
 obtain ⟨es,c,ho⟩:=h.mp.obj
 have hv:∀ {b nb:Nat} {m:List (Int × Int)} {A:Int × Int->Option Addr × Nat},wd ≠ b->VM xs w.heap.size b nb m A wr->VM xs w.heap.size b nb m A W':=fun hb hv=>
  hv.kept hg (fun e=>hb (Option.some.inj e)) (fun j e d hd hp ad ha=>by cases e; exact digs_cells (hv.pr d hd).1 hp ha ho rfl)
 exact ⟨W',hrun,⟨h.rg.kept hg (fun e=>h1 (Option.some.inj e).symm) (fun e=>h3 (Option.some.inj e).symm),hv h1 h.v1,hv h2 h.v2,hm,h.be.grown hg hw (fun j e=>by cases e; exact hN),hn⟩,hg⟩
end
structure B2 (xs:List Itm) (w:World) (b1 n1:Nat) (l:List (Int × Int)) (A1:Int × Int->Option Addr × Nat) (b2 n2:Nat) (r:List (Int × Int)) (A2:Int × Int->Option Addr × Nat) (wd nw ri N1 S1:Nat) (M:Int × Int->Bool) (v:Value) (wr:World):Prop where
 ex:∃ L left cnt,RangeV b1 ri n1 (FA xs l A1) left cnt wr/\wr.ownsRow S1 41 2 v L.length (dcells L)/\(∀ d,d ∈ L ↔ d ∈ l/\left d=false/\(decide (d ∈ r) && !M d)=true)/\L.Nodup/\L.length<=l.length
 v2:VM xs w.heap.size b2 n2 r A2 wr
 mp:MapD wd nw M wr
 be:Below N1 w wr
 sz:S1<=wr.heap.size
end Go.Proofs.YtfdahmicigpnoaaGreat
