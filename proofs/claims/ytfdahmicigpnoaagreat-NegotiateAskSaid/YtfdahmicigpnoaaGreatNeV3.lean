/- The third check of negotiate.valid. -/
import Derived.Test.YtfdahmicigpnoaaGreatNeIn
import Derived.Deep.RegionHeldLaw
set_option maxRecDepth 100000
set_option maxHeartbeats 16000000
open Go.Lib (hid)
namespace Go.Proofs.YtfdahmicigpnoaaGreat
open Go.RowKit Go.Shelf
set_option linter.unusedVariables false
theorem step_len_run {P:Program} {w:World} {ops:Array Oper} {o:Oper} {a:Act} {K:Act->World->Prop} {Q:Exit->Act->World->Prop} {E:Prop} (hg:o.guard=none) (m:Operand) (t:TypeId) (hop:o.op=Op.call { callee:=Callee.builtin Builtin.len,args:=#[m],argTypes:=#[t] })
  (v:Value) (hm:a.eval m=v) (z:Value) (hr:(Builtin.len_ #[t] o.type #[v]).run P w = .ok z w) (h:K (a.put o.dst z) w) :
  if Region.wanted o (yielded ops a.tmps)=true then Oper.wp P o a w K Q else E:=by
 have hw:Region.wanted o (yielded ops a.tmps)=true:=by simp [Region.wanted,hg]
 rw [if_pos hw]
 unfold Oper.wp
 simp [execOp,hop,resolve,invoke,builtin,hm,hr,Result.andThen]
 exact h
theorem vd3_any (xs:List Itm) (tb:Nat) (t:Tk) (A:TkA) (w:World) (hk:BK tb (t.arr A) 67 w) (ht:TkIn w t A) (hb:TkB t) :
  Calls Tryz.prog 148 #[.pointer (some ⟨tb,0,none⟩)] w (GotIO xs (t.queue ++ t.asked).Nodup w):=by
 obtain ⟨want,queue,asked,common,done⟩:=t
 obtain ⟨wa,wc,qa,qc,aa,ac,ca,cc⟩:=A
 obtain ⟨h1,h2,h3,h4,_,_,_,_⟩:=ht
 obtain ⟨l1,l2,l3,l4,o1,o2,o3,o4⟩:=hb
 simp only [Tk.arr] at *
 obtain ⟨nw,hnw⟩:∃ n,n=want.length:=⟨_,rfl⟩
 obtain ⟨nq,hnq⟩:∃ n,n=queue.length:=⟨_,rfl⟩
 obtain ⟨na,hna⟩:∃ n,n=asked.length:=⟨_,rfl⟩
 obtain ⟨nc,hnc⟩:∃ n,n=common.length:=⟨_,rfl⟩
 obtain ⟨v,hv⟩:∃ v,v=w.alloc (.cells #[.slice qa nq qc,.slice aa na ac] 24):=⟨_,rfl⟩
 have hbv:Below w.heap.size w v:=by rw [hv]; exact (Below.refl _ _).alloc (Nat.le_refl _) _
 have hdv:Below v.heap.size v v.drew:=(Below.refl _ _).drew
 have hall:allD [⟨qa,queue,qc⟩,⟨aa,asked,ac⟩]=queue ++ asked:=by simp [allD]
 have HT:=hid (toSet_any w.heap.size 2 [⟨qa,queue,qc⟩,⟨aa,asked,ac⟩] v.drew ((slsD_two (by rw [hv,hnq,hna]; exact BK.new _ _ _) (h2.ahead hbv) (h3.ahead hbv)).ahead hdv) (by
  rw [hall]; intro d hd
  rcases List.mem_append.1 hd with h | h
  ·exact o2 d h
  ·exact o3 d h) (by rw [hall,List.length_append]; omega) (by simp))
 rw [hall,hv] at HT
 simp only [List.length_cons,List.length_nil,Nat.zero_add,Nat.reduceAdd] at HT
 have HQL:Hid ((queue ++ asked).length=nq + na):=hid (by rw [List.length_append,<-hnq,<-hna])
 rw [<-hnq] at l2
 rw [<-hna] at l3
 rw [<-hnw,<-hnq,<-hna,<-hnc] at hk
 have HV:=hid hv
 have HBV:=hid (hbv.trans (hdv.mono hbv.size))
 have HKA:Hid (∀ W,Below w.heap.size w W->W.cell? ⟨tb,1,none⟩=some (.slice qa nq qc)/\W.cell? ⟨tb,2,none⟩=some (.slice aa na ac)):=hid (fun W hW=>by
  have h:=hk.below hW
  exact ⟨by rw [h.cell]; rfl,by rw [h.cell]; rfl⟩)
 obtain ⟨k1,k2⟩:=HKA.out w (Below.refl _ _)
 have k1a:=fun o=>cell_a1 k1 o
 have k2a:=fun o=>cell_a1 k2 o
 clear hnw hnq hna hnc h1 h2 h3 h4 l1 l4 o1 o2 o3 o4 hk hall hv hbv hdv
 have hwr:IntKind.i64.wrap ((nq:Int) + (na:Int))=((nq + na:Nat):Int):=by rw [wrap_i64 (by omega) (by omega)]; omega
 have HALL:Hid (∀ W,Below w.heap.size w W->Below w.heap.size w W/\W.cell? ⟨tb,1,none⟩=some (.slice qa nq qc)/\W.cell? ⟨tb,2,none⟩=some (.slice aa na ac)):=hid (fun W hW=>⟨hW,HKA.out W hW⟩)
 have hs0:=HALL.out w.drew ((Below.refl _ _).drew)
 have hs1:Below w.heap.size w (w.alloc (.cells #[.slice qa nq qc,.slice aa na ac] 24)).drew/\(w.alloc (.cells #[.slice qa nq qc,.slice aa na ac] 24)).drew.cell? ⟨tb,1,none⟩=some (.slice qa nq qc)/\(w.alloc (.cells #[.slice qa nq qc,.slice aa na ac] 24)).drew.cell? ⟨tb,2,none⟩=some (.slice aa na ac):=HALL.out _ (((Below.refl _ _).alloc (Nat.le_refl _) _).drew)
 go_enter Tryz.func148,Tryz.ntmps148
 go_wp2_with fail
 go_region_held_law (fun W=>Below w.heap.size w W/\W.cell? ⟨tb,1,none⟩=some (.slice qa nq qc)/\W.cell? ⟨tb,2,none⟩=some (.slice aa na ac))
  (first | exact hs0 | exact hs1 | assumption)
  (first
  | (go_simp; (with_reducible refine (HT.out).mono ?_); rintro e u ⟨mb,rfl,hs,hmb,hb⟩; (rw [<-HV.out] at hb); (have hb2:=HBV.out.trans (hb.mono HBV.out.size)); (obtain ⟨n,hlen,hle,hnd⟩:=hs.len); (have hs2:=HALL.out u hb2); clear hs hb hmb)
  | (refine step_len_run (w:=u) rfl (.tmp 7) 83 rfl _ rfl _ (hlen _) ?_)
  | fail)
 all_goals
  rw [HQL.out] at hle hnd
  go_wp2_with fail
  rename_i dst d heq
  have h8:(some 8:Option Tmp)=some d:=heq
  cases h8
  clear heq
  go_ret
  refine ⟨_,rfl,?_,hb2⟩
  rw [<-hnd]
  simp
  try omega
end Go.Proofs.YtfdahmicigpnoaaGreat
