/- Joined texts: ApRn, ApGt, ApIg, ApIh, ApVa, ApPn, ApAw. -/
import Derived.Test.YtdedfkljaeloiaaGreatDoorG12
/- The reference: number,text,truth,Encode; Great of files and of approvals. -/
set_option maxRecDepth 100000
set_option maxHeartbeats 16000000
open Go.Lib (hid)
namespace Go.Proofs.YtdedfkljaeloiaaGreatDoor
open Go.RowKit Go.Shelf
set_option linter.unusedVariables false
theorem rNumber_any (n:Int) (w:World):Calls Tryz.prog 35 #[.int .i64 n] w fun e w'=>e = .returned (.string ⟨((putI n).1).toArray⟩)/\Below w.heap.size w w':=by
 have HC:=hid (refPutInt_any n w)
 unfold T2s at HC
 go_enter Tryz.func35,Tryz.ntmps35
 go_wp2_with fail
 (with_reducible refine HC.out.mono ?_)
 rintro e w' ⟨rfl,hb⟩
 have HB:=hid hb
 clear hb HC
 go_wp2_with fail
 go_ret
 exact ⟨rfl,HB.out⟩
theorem rText_any (s:Pa) (hs:s.length<=1000000) (w:World):Calls Tryz.prog 36 #[.string ⟨s.toArray⟩] w fun e w'=>e = .returned (.string ⟨((putT s).1).toArray⟩)/\Below w.heap.size w w':=by
 have HC:=hid (refPutText_any ⟨s.toArray⟩ w (by rw [ba_len]; omega))
 unfold T2s at HC
 simp only at HC
 go_enter Tryz.func36,Tryz.ntmps36
 go_wp2_with fail
 (with_reducible refine HC.out.mono ?_)
 rintro e w' ⟨rfl,hb⟩
 have HB:=hid hb
 clear hb HC
 go_wp2_with fail
 go_ret
 exact ⟨rfl,HB.out⟩
theorem rTruth_any (b:Bool) (w:World):Calls Tryz.prog 37 #[.bool b] w fun e w'=>e = .returned (.string ⟨((putI (flagN b)).1).toArray⟩)/\Below w.heap.size w w':=by
 have HC:=hid (rNumber_any (flagN b) w)
 cases b
 all_goals
  simp only [flagN,if_true,Bool.false_eq_true,if_false] at HC ⊢
  go_enter Tryz.func37,Tryz.ntmps37
  go_wp2_with fail
  (with_reducible refine HC.out.mono ?_)
  rintro e w' ⟨rfl,hb⟩
  have HB:=hid hb
  clear hb HC
  go_wp2_with fail
  go_ret
  exact ⟨rfl,HB.out⟩
theorem putI_ten (n:Int):(putI n).1.length<=10:=by
 unfold putI
 split
 ·exact enc_length _
 ·simp
theorem rEncode_any (a:Option Addr) (l:List Fc) (c:Nat) (w:World) (hl:Fcs w.heap.size w a l) (hn:l.length<=1000) (hs:SmC l) :
  Calls Tryz.prog 16 #[.slice a l.length c] w fun e w'=>e = .returned (.string ⟨(encL l).toArray⟩)/\Below w.heap.size w w':=by
 have HL:=hid hl
 have HS:=hid hs
 have HC1:=hid (rNumber_any (l.length:Int) w)
 obtain ⟨T,hT⟩:∃ T,T=encL l:=⟨_,rfl⟩
 have HT:=hid hT
 obtain ⟨n,hnn⟩:∃ n,n=l.length:=⟨_,rfl⟩
 have HN:=hid hnn
 have HHD:Hid (T=(putI (n:Int)).1 ++ l.flatMap encFc):=hid (by rw [hT,hnn]; rfl)
 have hpn:=putI_ten (n:Int)
 rw [<-hnn] at HC1 hn ⊢
 rw [<-hT]
 generalize (putI (n:Int)).1=hd at HC1 HHD hpn
 clear hl hs hnn hT
 go_enter Tryz.func16,Tryz.ntmps16
 go_wp2_with fail
 (with_reducible refine HC1.out.mono ?_)
 rintro e y2 ⟨rfl,hb2⟩
 have HB2:=hid hb2
 clear hb2 HC1
 go_wp2_with fail
 go_loopw [3,4] (fun s i wr=>∃ (k:Nat) (U:Pa),i = .int .i64 (k:Int)/\k<=n/\s = .string ⟨U.toArray⟩/\Hid (U=hd ++ (l.take k).flatMap encFc)/\Hid (Below w.heap.size w wr)) (fun _ i _=>n - (intOf i).toNat)
 case atStart=>exact ⟨0,hd,rfl,by omega,rfl,hid (by simp),HB2⟩
 case round=>
  clear HB2
  obtain ⟨k,U,rfl,hk,rfl,HU,HB⟩:=hrel
  by_cases hlt:k < n
  ·have hki:(k:Int) < (n:Int):=by omega
   have hkl:k < l.length:=by rw [<-HN.out]; exact hlt
   obtain ⟨b0,o0,hab,hb0,q0,q1,q2,q3,q4⟩:=fc_cells (HL.out.below HB.out (Nat.le_refl _)) hkl
   obtain ⟨hs1,hs2,hs3⟩:=HS.out _ (List.getElem_mem hkl)
   have hbnd:U.length<=300000000:=by
    have h1:=flat_enc (l:=l.take k) (fun c hc=>HS.out c (List.mem_of_mem_take hc))
    rw [List.length_take] at h1
    have h2:min k l.length * 200000<=1000 * 200000:=Nat.mul_le_mul_right _ (by omega)
    rw [HU.out,List.length_append]
    omega
   have HT3:Hid (U ++ ((putT l[k].path).1 ++ (putI (flagN l[k].ho)).1 ++ (putI (flagN l[k].hn)).1 ++ (putT l[k].old).1 ++ (putT l[k].new).1)=hd ++ (l.take (k + 1)).flatMap encFc):=hid (by
    rw [HU.out,List.take_succ_eq_append_getElem hkl,List.flatMap_append,List.append_assoc]
    simp [encFc])
   have HLE:Hid (((putT l[k].path).1 ++ (putI (flagN l[k].ho)).1 ++ (putI (flagN l[k].hn)).1 ++ (putT l[k].old).1 ++ (putT l[k].new).1).length<=200000):=hid (encFc_len hs1 hs2 hs3)
   have HA1:=hid (fun W=>rText_any l[k].path (by omega) W)
   have HA2:=hid (fun W=>rTruth_any l[k].ho W)
   have HA3:=hid (fun W=>rTruth_any l[k].hn W)
   have HA4:=hid (fun W=>rText_any l[k].old (by omega) W)
   have HA5:=hid (fun W=>rText_any l[k].new (by omega) W)
   generalize l[k]=x at *
   obtain ⟨xp,xo,xn,xs,xt⟩:=x
   simp only at HA1 HA2 HA3 HA4 HA5 HT3 HLE q0 q1 q2 q3 q4
   have hle:=HLE.out
   generalize (putT xp).1=X1 at HA1 HT3 hle
   generalize (putI (flagN xo)).1=X2 at HA2 HT3 hle
   generalize (putI (flagN xn)).1=X3 at HA3 HT3 hle
   generalize (putT xs).1=X4 at HA4 HT3 hle
   generalize (putT xt).1=X5 at HA5 HT3 hle
   simp only [List.length_append] at hle
   subst hab
   have hl1:=ba_len X1
   have hl2:=ba_len X2
   have hl3:=ba_len X3
   have hl4:=ba_len X4
   have hl5:=ba_len X5
   have hu0:=ba_len U
   have hc1:(⟨U.toArray⟩:ByteArray) ++ ⟨X1.toArray⟩=⟨(U ++ X1).toArray⟩:=by rw [ba_append]
   have hc2:(⟨(U ++ X1).toArray⟩:ByteArray) ++ ⟨X2.toArray⟩=⟨(U ++ X1 ++ X2).toArray⟩:=by rw [ba_append]
   have hc3:(⟨(U ++ X1 ++ X2).toArray⟩:ByteArray) ++ ⟨X3.toArray⟩=⟨(U ++ X1 ++ X2 ++ X3).toArray⟩:=by rw [ba_append]
   have hc4:(⟨(U ++ X1 ++ X2 ++ X3).toArray⟩:ByteArray) ++ ⟨X4.toArray⟩=⟨(U ++ X1 ++ X2 ++ X3 ++ X4).toArray⟩:=by rw [ba_append]
   have hc5:(⟨(U ++ X1 ++ X2 ++ X3 ++ X4).toArray⟩:ByteArray) ++ ⟨X5.toArray⟩=⟨(U ++ X1 ++ X2 ++ X3 ++ X4 ++ X5).toArray⟩:=by rw [ba_append]
   have hu1:=ba_len (U ++ X1)
   have hu2:=ba_len (U ++ X1 ++ X2)
   have hu3:=ba_len (U ++ X1 ++ X2 ++ X3)
   have hu4:=ba_len (U ++ X1 ++ X2 ++ X3 ++ X4)
   have HT4:Hid (U ++ X1 ++ X2 ++ X3 ++ X4 ++ X5=hd ++ (l.take (k + 1)).flatMap encFc):=hid (by rw [<-HT3.out]; simp [List.append_assoc])
   simp only [List.length_append] at hu1 hu2 hu3 hu4
   have HR1:=hid (fun d os=>Calls.regrown_of (w:=wr) (d:=d) (os:=os) (HA1.out _))
   have HR2:=hid (fun d os=>Calls.regrown_of (w:=wr) (d:=d) (os:=os) (HA2.out _))
   have HR3:=hid (fun d os=>Calls.regrown_of (w:=wr) (d:=d) (os:=os) (HA3.out _))
   have HR4:=hid (fun d os=>Calls.regrown_of (w:=wr) (d:=d) (os:=os) (HA4.out _))
   have HR5:=hid (fun d os=>Calls.regrown_of (w:=wr) (d:=d) (os:=os) (HA5.out _))
   have f0:=cell_regrown q0
   have f1:=cell_regrown q1
   have f2:=cell_regrown q2
   have f3:=cell_regrown q3
   have f4:=cell_regrown q4
   clear HT3 HLE HA1 HA2 HA3 HA4 HA5 hs1 hs2 hs3
   go_wp2_with fail
   refine wp_region_quiet_below (by kernel_rfl) (by kernel_rfl) ?_
   repeat (any_goals (first | go_big_quiet_step (first | (with_reducible exact HR1.out _ _) | (with_reducible exact HR2.out _ _) | (with_reducible exact HR3.out _ _) | (with_reducible exact HR4.out _ _) | (with_reducible exact HR5.out _ _)) | quiet_step (first | (with_reducible exact HR1.out _ _) | (with_reducible exact HR2.out _ _) | (with_reducible exact HR3.out _ _) | (with_reducible exact HR4.out _ _) | (with_reducible exact HR5.out _ _))))
   refine wpQuiet_nil ?_
   intro w3 hw3
   have hbq:=below_rg hw3
   have HB3:=hid (HB.out.trans (hbq.mono HB.out.size))
   clear hw3 hbq HR1 HR2 HR3 HR4 HR5 f0 f1 f2 f3 f4 q0 q1 q2 q3 q4
   go_wp2_with fail
   go_roundw
   case rel=>exact ⟨k + 1,U ++ X1 ++ X2 ++ X3 ++ X4 ++ X5,by go_num,by omega,by simp only [ba_append,List.append_assoc],HT4,HB3⟩
   case measure=>simp [intOf] <;> omega
  ·have hki:¬ (k:Int) < (n:Int):=by omega
   have HE:Hid (U=T):=hid (by rw [HU.out,HHD.out,List.take_of_length_le (by have:=HN.out; omega)])
   go_wp2_with fail
   go_ret
   exact ⟨by rw [HE.out]; rfl,HB.out⟩
def GotGt (w:World) (P:Prop) (e:Ending) (w':World):Prop:=(e = .returned (.bool true)\/(e = .returned (.bool false)/\P))/\Below w.heap.size w w'
theorem fgreat_any (a:Option Addr) (l:List Fl) (c:Nat) (w:World) (hl:Fls w.heap.size w a l) (hn:(l.length:Int)<=9223372036854775807) (hb:∀ x ∈ l,(x.path.length:Int)<=9223372036854775807/\(x.data.length:Int)<=9223372036854775807) :
  Calls Tryz.prog 4 #[.slice a l.length c] w (GotGt w (l.length<=10/\∀ x ∈ l,x.path.length<=120/\x.data.length<=200)):=by
 have HL:=hid hl
 have HB:=hid hb
 obtain ⟨n,hnn⟩:∃ n,n=l.length:=⟨_,rfl⟩
 have HN:=hid hnn
 unfold GotGt
 rw [<-hnn] at hn ⊢
 clear hl hb hnn
 by_cases h10:(10:Int) < (n:Int)
 ·have d1:decide ((10:Int) < (n:Int))=true:=by simpa using h10
  go_enter Tryz.func4,Tryz.ntmps4
  go_wp2_with fail
  go_ret
  exact ⟨.inl rfl,Below.refl _ _⟩
 ·have d1:decide ((10:Int) < (n:Int))=false:=by simpa using h10
  go_enter Tryz.func4,Tryz.ntmps4
  go_wp2_with fail
  go_loop [3] (fun i=>∃ k:Nat,k<=n/\i = .int .i64 k/\Hid (∀ j (h:j < l.length),j < k->l[j].path.length<=120/\l[j].data.length<=200)) (fun i=>n - (intOf i).toNat)
  case atStart=>exact ⟨0,by omega,rfl,hid (fun j h h2=>by omega)⟩
  case round=>
   obtain ⟨k,hk,rfl,HA⟩:=hrel
   by_cases hlt:k < n
   ·have hki:(k:Int) < (n:Int):=by omega
    have hkl:k < l.length:=by rw [<-HN.out]; exact hlt
    obtain ⟨b0,o0,hab,hb0,q0,q1⟩:=fl_cells HL.out hkl
    obtain ⟨hp1,hp2⟩:=HB.out _ (List.getElem_mem hkl)
    have HST:Hid (l[k].path.length<=120/\l[k].data.length<=200->∀ j (h:j < l.length),j < k + 1->l[j].path.length<=120/\l[j].data.length<=200):=hid (fun hx j h h2=>by
     by_cases e:j=k
     ·subst e; exact hx
     ·exact HA.out j h (by omega))
    generalize l[k]=x at q0 q1 hp1 hp2 HST
    obtain ⟨P,D⟩:=x
    simp only at q0 q1 hp1 hp2 HST
    subst hab
    by_cases h1:(120:Int) < (P.length:Int)
    ·have d2:decide ((120:Int) < (P.length:Int))=true:=by simpa using h1
     go_wp2_with fail
     go_ret
     exact ⟨.inl rfl,Below.refl _ _⟩
    ·have d2:decide ((120:Int) < (P.length:Int))=false:=by simpa using h1
     by_cases h2:(200:Int) < (D.length:Int)
     ·have d3:decide ((200:Int) < (D.length:Int))=true:=by simpa using h2
      go_wp2_with fail
      go_ret
      exact ⟨.inl rfl,Below.refl _ _⟩
     ·have d3:decide ((200:Int) < (D.length:Int))=false:=by simpa using h2
      have HA2:=hid (HST.out ⟨by omega,by omega⟩)
      clear HST
      go_wp2_with fail
      go_round
      case rel=>exact ⟨k + 1,by omega,by go_num,HA2⟩
      case measure=>simp [intOf] <;> omega
   ·have hki:¬ (k:Int) < (n:Int):=by omega
    have HE:Hid (n<=10/\∀ x ∈ l,x.path.length<=120/\x.data.length<=200):=hid ⟨by omega,fun x hx=>by
     obtain ⟨j,hj,rfl⟩:=List.getElem_of_mem hx
     exact HA.out j hj (by have:=HN.out; omega)⟩
    go_wp2_with fail
    go_ret
    exact ⟨.inr ⟨rfl,HE.out⟩,Below.refl _ _⟩
theorem agreat_any (a:Option Addr) (l:List Ap) (c:Nat) (w:World) (hl:Aps w.heap.size w a l) (hn:(l.length:Int)<=9223372036854775807) (hb:∀ x ∈ l,(x.who.length:Int)<=9223372036854775807/\(x.saw.length:Int)<=9223372036854775807) :
  Calls Tryz.prog 5 #[.slice a l.length c] w (GotGt w (l.length<=10/\∀ x ∈ l,x.who.length<=50/\x.saw.length<=1000)):=by
 have HL:=hid hl
 have HB:=hid hb
 obtain ⟨n,hnn⟩:∃ n,n=l.length:=⟨_,rfl⟩
 have HN:=hid hnn
 unfold GotGt
 rw [<-hnn] at hn ⊢
 clear hl hb hnn
 go_enter Tryz.func5,Tryz.ntmps5
 go_wp2_with fail
 go_loop [3] (fun i=>∃ k:Nat,k<=n/\i = .int .i64 k/\Hid (∀ j (h:j < l.length),j < k->l[j].who.length<=50/\l[j].saw.length<=1000)) (fun i=>n - (intOf i).toNat)
 case atStart=>exact ⟨0,by omega,rfl,hid (fun j h h2=>by omega)⟩
 case round=>
  obtain ⟨k,hk,rfl,HA⟩:=hrel
  by_cases hlt:k < n
  ·have hki:(k:Int) < (n:Int):=by omega
   have hkl:k < l.length:=by rw [<-HN.out]; exact hlt
   obtain ⟨b0,o0,hab,hb0,q0,q9,q1⟩:=ap_cells HL.out hkl
   obtain ⟨hp1,hp2⟩:=HB.out _ (List.getElem_mem hkl)
   have HST:Hid (l[k].who.length<=50/\l[k].saw.length<=1000->∀ j (h:j < l.length),j < k + 1->l[j].who.length<=50/\l[j].saw.length<=1000):=hid (fun hx j h h2=>by
    by_cases e:j=k
    ·subst e; exact hx
    ·exact HA.out j h (by omega))
   generalize l[k]=x at q0 q1 hp1 hp2 HST
   obtain ⟨P,ch,D⟩:=x
   simp only at q0 q1 hp1 hp2 HST
   clear q9
   subst hab
   by_cases h1:(50:Int) < (P.length:Int)
   ·have d2:decide ((50:Int) < (P.length:Int))=true:=by simpa using h1
    go_wp2_with fail
    go_ret
    exact ⟨.inl rfl,Below.refl _ _⟩
   ·have d2:decide ((50:Int) < (P.length:Int))=false:=by simpa using h1
    by_cases h2:(1000:Int) < (D.length:Int)
    ·have d3:decide ((1000:Int) < (D.length:Int))=true:=by simpa using h2
     go_wp2_with fail
     go_ret
     exact ⟨.inl rfl,Below.refl _ _⟩
    ·have d3:decide ((1000:Int) < (D.length:Int))=false:=by simpa using h2
     have HA2:=hid (HST.out ⟨by omega,by omega⟩)
     clear HST
     go_wp2_with fail
     go_round
     case rel=>exact ⟨k + 1,by omega,by go_num,HA2⟩
     case measure=>simp [intOf] <;> omega
  ·have hki:¬ (k:Int) < (n:Int):=by omega
   have HE:Hid (∀ x ∈ l,x.who.length<=50/\x.saw.length<=1000):=hid (fun x hx=>by
    obtain ⟨j,hj,rfl⟩:=List.getElem_of_mem hx
    exact HA.out j hj (by have:=HN.out; omega))
   by_cases h10:(10:Int) < (n:Int)
   ·have d1:decide ((10:Int) < (n:Int))=true:=by simpa using h10
    go_wp2_with fail
    go_ret
    exact ⟨.inl rfl,Below.refl _ _⟩
   ·have d1:decide ((10:Int) < (n:Int))=false:=by simpa using h10
    have HLE:Hid (n<=10):=hid (by omega)
    go_wp2_with fail
    go_ret
    exact ⟨.inr ⟨rfl,HLE.out,HE.out⟩,Below.refl _ _⟩
theorem eql_fc (x y:Fc) (W:World):(binOp .eql 42 (fcV x) (fcV y)).run Tryz.prog W = .ok (.bool (decide (x=y))) W:=by
 obtain ⟨a,b,c,d,e⟩:=x
 obtain ⟨a',b',c',d',e'⟩:=y
 simp only [fcV]
 rw [run_eql_struct,run_equalIn_struct W 9999 42 _ _ (by kernel_rfl) (by kernel_rfl)]
 have hf : (Tryz.prog.fieldsOf 42).toList.map (fun f => (f.name, f.type, f.offset)) = [("Path", 9, 0), ("HasOld", 4, 1), ("HasNew", 4, 2), ("Old", 9, 3), ("New", 9, 4)] := by kernel_rfl
 generalize (Tryz.prog.fieldsOf 42).toList=fs at hf
 obtain _ | ⟨f0,_ | ⟨f1,_ | ⟨f2,_ | ⟨f3,_ | ⟨f4,_ | ⟨f5,fs⟩⟩⟩⟩⟩⟩:=fs <;> simp only [List.map_cons,List.map_nil,List.cons.injEq,Prod.mk.injEq,reduceCtorEq,and_false] at hf
 obtain ⟨⟨n0,t0,o0⟩,⟨n1,t1,o1⟩,⟨n2,t2,o2⟩,⟨n3,t3,o3⟩,⟨n4,t4,o4⟩,_⟩:=hf
 have p0:∀ (V:World) (v0 v1 v2 v3 v4:Value),(Go.part 9 #[v0,v1,v2,v3,v4] 0).run Tryz.prog V = .ok v0 V:=fun V v0 v1 v2 v3 v4=>by kernel_rfl
 have p1:∀ (V:World) (v0 v1 v2 v3 v4:Value),(Go.part 4 #[v0,v1,v2,v3,v4] 1).run Tryz.prog V = .ok v1 V:=fun V v0 v1 v2 v3 v4=>by kernel_rfl
 have p2:∀ (V:World) (v0 v1 v2 v3 v4:Value),(Go.part 4 #[v0,v1,v2,v3,v4] 2).run Tryz.prog V = .ok v2 V:=fun V v0 v1 v2 v3 v4=>by kernel_rfl
 have p3:∀ (V:World) (v0 v1 v2 v3 v4:Value),(Go.part 9 #[v0,v1,v2,v3,v4] 3).run Tryz.prog V = .ok v3 V:=fun V v0 v1 v2 v3 v4=>by kernel_rfl
 have p4:∀ (V:World) (v0 v1 v2 v3 v4:Value),(Go.part 9 #[v0,v1,v2,v3,v4] 4).run Tryz.prog V = .ok v4 V:=fun V v0 v1 v2 v3 v4=>by kernel_rfl
 have qs:∀ (u v:Pa) (V:World),(Op.equalIn 9999 9 (.string ⟨u.toArray⟩) (.string ⟨v.toArray⟩)).run Tryz.prog V = .ok (u == v) V:=fun u v V=>by
  have h:=run_equalIn_string (P:=Tryz.prog) V 9998 9 ⟨u.toArray⟩ ⟨v.toArray⟩ Tryz.underlying9
  rwa [show (⟨u.toArray⟩:ByteArray).toList=u by rw [Lib.toList_data],show (⟨v.toArray⟩:ByteArray).toList=v by rw [Lib.toList_data]] at h
 have qb:∀ (u v:Bool) (V:World),(Op.equalIn 9999 4 (.bool u) (.bool v)).run Tryz.prog V = .ok (u == v) V:=fun u v V=>run_equalIn_bool' (P:=Tryz.prog) V 9998 4 u v Tryz.underlying4
 simp only [Op.eqFields,Sem.run_bind,Sem.run_ite,n0,n1,n2,n3,n4,t0,t1,t2,t3,t4,o0,o1,o2,o3,o4,p0,p1,p2,p3,p4,qs,qb,Result.andThen_ok]
 by_cases h0:a=a' <;> by_cases h1:b=b' <;> by_cases h2:c=c' <;> by_cases h3:d=d' <;> by_cases h4:e=e' <;> simp [h0,h1,h2,h3,h4]
theorem index_Fc (s:Fc) (a:Option Addr) (c:Nat) (G:List Fc) (w:World) (hr:Fcs w.heap.size w a G) (hn:(G.length:Int)<=1000000) :
  Calls Tryz.prog 34 #[.slice a G.length c,fcV s] w fun e w'=>(∃ k:Int,e = .returned (.int .i64 k)/\(0<=k ↔ decide (s ∈ G)=true))/\Below w.heap.size w w':=by
 have HR:=hid hr
 obtain ⟨R,hR⟩:∃ R,R=decide (s ∈ G):=⟨_,rfl⟩
 rw [<-hR]
 have HRR:=hid hR
 obtain ⟨n,hnn⟩:∃ n,n=G.length:=⟨_,rfl⟩
 have HN:=hid hnn
 rw [<-hnn] at hn ⊢
 obtain ⟨w0,hw0⟩:∃ w0,w0=w.alloc (.cells (fcCs s).toArray TFc):=⟨_,rfl⟩
 have HB0:Hid (Below w.heap.size w w0):=hid (by rw [hw0]; exact (Below.refl _ _).alloc (Nat.le_refl _) _)
 have HK0:Hid (BK w.heap.size (fcCs s).toArray TFc w0):=hid (by rw [hw0]; exact BK.new _ _ _)
 have HW0:=hid hw0
 clear hr hnn hR hw0
 simp only [fcCs,fcV] at HK0 HW0 ⊢
 go_enter Tryz.func34,Tryz.ntmps34
 go_wp2_with fail
 rw [<-HW0.out]
 go_loopw [8] (fun i wr=>∃ (k:Nat),i = .int .i64 k/\k<=n/\Hid (∀ j (hj:j < G.length),j < k->s ≠ G[j])/\Hid (Below w0.heap.size w0 wr)) (fun i _=>n - (intOf i).toNat)
 case atStart=>exact ⟨0,rfl,by omega,hid (fun j hj h=>by omega),hid (Below.refl _ _)⟩
 case round=>
  obtain ⟨k,rfl,hk,HA,HB⟩:=hrel
  have HBW:Hid (Below w.heap.size w wr):=hid (HB0.out.trans (HB.out.mono HB0.out.size))
  by_cases hlt:k < n
  ·have hki:(k:Int) < (n:Int):=by omega
   have hkl:k < G.length:=by rw [<-HN.out]; exact hlt
   obtain ⟨b,off,hab,hb,q0,q1,q2,q3,q4⟩:=fc_cells (HR.out.below HBW.out (Nat.le_refl _)) hkl
   obtain ⟨p0,p1,p2,p3,p4⟩:=(HK0.out.below HB.out).c5
   have HNX:Hid (s ≠ G[k]->∀ j (hj:j < G.length),j < k + 1->s ≠ G[j]):=hid (fun he j hj hjk=>by
    rcases Nat.lt_or_ge j k with h1 | h1
    ·exact HA.out j hj h1
    ·obtain rfl:j=k:=by omega
     exact he)
   have HF:Hid (s=G[k]->((0:Int)<=(k:Int) ↔ R=true)):=hid (fun he=>by rw [HRR.out,decide_eq_true (show s ∈ G by rw [he]; exact List.getElem_mem hkl)]; simp)
   have hq:=fun W=>eql_fc s G[k] W
   have HDY:Hid (decide (s=G[k])=true->s=G[k]):=hid (fun h=>of_decide_eq_true h)
   have HDN:Hid (decide (s=G[k])=false->s ≠ G[k]):=hid (fun h=>of_decide_eq_false h)
   generalize decide (s=G[k])=dd at hq HDY HDN
   generalize G[k]=y at q0 q1 q2 q3 q4 HNX HF hq HDY HDN
   simp only [fcV] at hq
   subst hab
   clear HA
   cases dd with
   | true=>
    have HF2:=hid (HF.out (HDY.out rfl))
    clear HDY HDN HNX HF
    go_wp2_with fail
    go_quiet (fail)
    go_wp2_with fail
    go_ret
    exact ⟨⟨_,rfl,HF2.out⟩,below_drewN HBW.out _⟩
   | false=>
    have HNX2:=hid (HNX.out (HDN.out rfl))
    clear HDY HDN HNX HF
    go_wp2_with fail
    go_quiet (fail)
    go_wp2_with fail
    go_roundw
    case rel=>exact ⟨k + 1,by go_num,by omega,HNX2,hid (below_drewN HB.out _)⟩
    case measure=>simp [intOf] <;> omega
  ·have hki:¬ (k:Int) < (n:Int):=by omega
   have HF:Hid ((0:Int)<=-1 ↔ R=true):=hid (by
    rw [HRR.out,decide_eq_false (show ¬ s ∈ G from fun hm=>by
     obtain ⟨j,hj,e⟩:=List.getElem_of_mem hm
     exact HA.out j hj (by have:=HN.out; omega) e.symm)]; simp)
   clear HA
   go_wp2_with fail
   go_ret
   exact ⟨⟨_,rfl,HF.out⟩,HBW.out⟩
theorem contains_Fc (s:Fc) (a:Option Addr) (c:Nat) (G:List Fc) (w:World) (hr:Fcs w.heap.size w a G) (hn:(G.length:Int)<=1000000) :
  Calls Tryz.prog 15 #[.slice a G.length c,fcV s] w fun e w'=>e = .returned (.bool (decide (s ∈ G)))/\Below w.heap.size w w':=by
 obtain ⟨w0,hw0⟩:∃ w0,w0=w.alloc (.cells (fcCs s).toArray TFc):=⟨_,rfl⟩
 have hb0:Below w.heap.size w w0:=by rw [hw0]; exact (Below.refl _ _).alloc (Nat.le_refl _) _
 have hk0:BK w.heap.size (fcCs s).toArray TFc w0:=by rw [hw0]; exact BK.new _ _ _
 have HB0:=hid hb0
 have HC:=hid (index_Fc s a c G w0 (hr.below hb0 (Nat.le_refl _) |>.mono hb0.size) hn)
 have HW0:=hid hw0
 generalize decide (s ∈ G)=R at HC
 simp only [fcCs,fcV] at hk0 HW0 HC ⊢
 obtain ⟨c0,c1,c2,c3,c4⟩:=hk0.c5
 rw [HW0.out] at c0 c1 c2 c3 c4 HC
 clear hr hw0 hb0 hk0
 go_enter Tryz.func15,Tryz.ntmps15
 go_wp2_with fail
 (with_reducible refine HC.out.mono ?_)
 rintro e w2 ⟨⟨k,rfl,hk⟩,hb⟩
 rw [<-HW0.out] at hb
 have HB:=hid (HB0.out.trans (hb.mono HB0.out.size))
 have HK:=hid hk
 clear hk HC hb c0 c1 c2 c3 c4
 go_wp2_with fail
 go_ret
 exact ⟨by rw [show R=decide (0<=k) from by have:=HK.out; cases R <;> simp at this ⊢ <;> omega]; rfl,HB.out⟩
abbrev ApW (B:Nat) (W:World) (h:Hd) (G:List Ap):Prop:=Aps B W h.1 G
abbrev InA (x:Ap) (g:Ap) (W:World):Prop:=x=g
def PredAp (gf:Nat) (lb:Array Value) (p:Ap->Bool) (w:World) (G:List (Ap)):Prop:=
 (∀ args w,(callFunc gf args).run Tryz.prog w = .ok (.enter gf args) w)/\∀ (x:Ap) (g:Ap) (W:World),Below w.heap.size w W->g ∈ G->InA x g W->Calls Tryz.prog gf (#[.agg #[.string ⟨x.who.toArray⟩,.int .i64 x.ch,.string ⟨x.saw.toArray⟩]] ++ lb) W fun e W'=>e = .returned (.bool (p g))/\Below W.heap.size W W'
theorem indexF_Ap (gf:Nat) (lb:Array Value) (p:Ap->Bool) (a:Option Addr) (c:Nat) (G:List (Ap)) (w:World) (hr:ApW w.heap.size w (a,G.length,c) G) (hn:(G.length:Int)<=1000000) (hP:PredAp gf lb p w G) :
  Calls Tryz.prog 30 #[.slice a G.length c,.func (.func gf) #[] lb] w fun e w'=>(∃ k:Int,e = .returned (.int .i64 k)/\(0<=k ↔ G.any p=true))/\Below w.heap.size w w':=by
 have HR:=hid hr
 obtain ⟨R,hR⟩:∃ R,R=G.any p:=⟨_,rfl⟩
 rw [<-hR]
 have HRR:=hid hR
 have HP:=hid hP.2
 have heg:=hP.1
 obtain ⟨n,hnn⟩:∃ n,n=G.length:=⟨_,rfl⟩
 have HN:=hid hnn
 rw [<-hnn] at hn ⊢
 clear hr hP hnn hR
 go_enter Tryz.func30,Tryz.ntmps30
 go_wp2_with fail
 go_loopw [8] (fun i wr=>∃ (k:Nat),i = .int .i64 k/\k<=n/\Hid (∀ j (hj:j < G.length),j < k->p G[j]=false)/\Hid (Below w.heap.size w wr)) (fun i _=>n - (intOf i).toNat)
 case atStart=>exact ⟨0,rfl,by omega,hid (fun j hj h=>by omega),hid (Below.refl _ _)⟩
 case round=>
  obtain ⟨k,rfl,hk,HA,HB⟩:=hrel
  by_cases hlt:k < n
  ·have hki:(k:Int) < (n:Int):=by omega
   have hkl:k < G.length:=by rw [<-HN.out]; exact hlt
   obtain ⟨b,off,hab,hb,q0,q1,q2⟩:=ap_cells (HR.out.below HB.out (Nat.le_refl _)) hkl
   have HX:Hid (InA G[k] G[k] wr):=hid rfl
   simp only at hab
   subst hab
   have HC:=hid (HP.out G[k] G[k] wr HB.out (List.getElem_mem hkl) HX.out)
   have HNX:Hid (p G[k]=false->∀ j (hj:j < G.length),j < k + 1->p G[j]=false):=hid (fun h j hj hjk=>by
    rcases Nat.lt_or_ge j k with h1 | h1
    ·exact HA.out j hj h1
    ·obtain rfl:j=k:=by omega
     exact h)
   have HYS:Hid (p G[k]=true->((0:Int)<=(k:Int) ↔ R=true)):=hid (fun h=>by rw [HRR.out,List.any_eq_true.2 ⟨_,List.getElem_mem hkl,h⟩]; simp)
   generalize p G[k]=pk at HC HNX HYS
   clear HA HX
   go_wp2_with fail
   (with_reducible refine HC.out.mono ?_)
   rintro e w2 ⟨rfl,hb2⟩
   have HB2:=hid (HB.out.trans (hb2.mono HB.out.size))
   clear hb2 HC HB q0
   cases pk with
   | true=>
    go_wp2_with fail
    go_ret
    exact ⟨⟨_,rfl,HYS.out (by simp)⟩,HB2.out⟩
   | false=>
    have HNX2:=hid (HNX.out (by simp))
    clear HNX HYS
    go_wp2_with fail
    go_roundw
    case rel=>exact ⟨k + 1,by go_num,by omega,HNX2,HB2⟩
    case measure=>simp [intOf] <;> omega
  ·have hki:¬ (k:Int) < (n:Int):=by omega
   have HF:Hid ((0:Int)<=-1 ↔ R=true):=hid (by
    have:G.any p=false:=by
     rw [List.any_eq_false]
     intro g hg
     obtain ⟨j,hj,rfl⟩:=List.getElem_of_mem hg
     rw [HA.out j hj (by have:=HN.out; omega)]; simp
    rw [HRR.out,this]; simp)
   clear HA HP
   go_wp2_with fail
   go_ret
   exact ⟨⟨_,rfl,HF.out⟩,HB.out⟩
theorem containsF_Ap (gf:Nat) (lb:Array Value) (p:Ap->Bool) (a:Option Addr) (c:Nat) (G:List (Ap)) (w:World) (hr:ApW w.heap.size w (a,G.length,c) G) (hn:(G.length:Int)<=1000000) (hP:PredAp gf lb p w G) :
  Calls Tryz.prog 11 #[.slice a G.length c,.func (.func gf) #[] lb] w fun e w'=>e = .returned (.bool (G.any p))/\Below w.heap.size w w':=by
 have HC:=hid (indexF_Ap gf lb p a c G w hr hn hP)
 clear hr hP
 generalize G.any p=R at HC
 go_enter Tryz.func11,Tryz.ntmps11
 go_wp2_with fail
 (with_reducible refine HC.out.mono ?_)
 rintro e w2 ⟨⟨k,rfl,hk⟩,hb⟩
 have HB:=hid hb
 have HK:=hid hk
 clear hb hk HC
 go_wp2_with fail
 go_ret
 exact ⟨by rw [show R=decide (0<=k) from by have:=HK.out; cases R <;> simp at this ⊢ <;> omega]; rfl,HB.out⟩
def apP (l m:List Fl) (ch:Int) (g:List Pa) (s:Fc) (x:Ap):Bool:=decide (x.ch=ch) && (decide (x.who ∈ g) && (decide (s ∈ seenL (exL l m) x.who) && decide (x.saw=sawL (exL l m) x.who)))
structure ApB (ob nb cb gb fb:Nat) (a:Option Addr) (l:List Fl) (c:Nat) (a2:Option Addr) (m:List Fl) (c2:Nat) (ch:Int) (ga:Option Addr) (g:List Pa) (gc:Nat) (s:Fc) (W:World):Prop where
 b1:BK ob #[.slice a l.length c] 23 W
 b2:BK nb #[.slice a2 m.length c2] 23 W
 b3:BK cb #[.int .i64 ch] 3 W
 b4:BK gb #[.slice ga g.length gc] 44 W
 b5:BK fb #[.string ⟨s.path.toArray⟩,.bool s.ho,.bool s.hn,.string ⟨s.old.toArray⟩,.string ⟨s.new.toArray⟩] 42 W
 fl:Fls W.heap.size W a l
 fm:Fls W.heap.size W a2 m
 gr:SrW W.heap.size W (ga,g.length,gc) g
theorem ApB.below {ob nb cb gb fb:Nat} {a:Option Addr} {l:List Fl} {c:Nat} {a2:Option Addr} {m:List Fl} {c2:Nat} {ch:Int} {ga:Option Addr} {g:List Pa} {gc:Nat} {s:Fc} {W W':World} (h:ApB ob nb cb gb fb a l c a2 m c2 ch ga g gc s W) (hb:Below W.heap.size W W'):ApB ob nb cb gb fb a l c a2 m c2 ch ga g gc s W':=
 ⟨h.b1.below hb,h.b2.below hb,h.b3.below hb,h.b4.below hb,h.b5.below hb,(h.fl.below hb (Nat.le_refl _)).mono hb.size,(h.fm.below hb (Nat.le_refl _)).mono hb.size,(h.gr.below hb).mono hb.size⟩
theorem topA1_any {ob nb cb gb fb:Nat} {a:Option Addr} {l:List Fl} {c:Nat} {a2:Option Addr} {m:List Fl} {c2:Nat} {ch:Int} {ga:Option Addr} {g:List Pa} {gc:Nat} {s:Fc} {W:World} (h:ApB ob nb cb gb fb a l c a2 m c2 ch ga g gc s W) (hs:Sm1 l) (hs2:Sm1 m) (hok:exOk l m) (hg:g.length<=1000000) (x:Ap) :
  Calls Tryz.prog 12 (#[.agg #[.string ⟨x.who.toArray⟩,.int .i64 x.ch,.string ⟨x.saw.toArray⟩]] ++ #[.pointer (some ⟨ob,0,none⟩),.pointer (some ⟨nb,0,none⟩),.pointer (some ⟨cb,0,none⟩),.pointer (some ⟨gb,0,none⟩),.pointer (some ⟨fb,0,none⟩)]) W fun e W'=>e = .returned (.bool (apP l m ch g s x))/\Below W.heap.size W W':=by
 obtain ⟨w0,hw0⟩:∃ w0,w0=W.alloc (.cells #[.string ⟨x.who.toArray⟩,.int .i64 x.ch,.string ⟨x.saw.toArray⟩] 47):=⟨_,rfl⟩
 have hb0:Below W.heap.size W w0:=by rw [hw0]; exact (Below.refl _ _).alloc (Nat.le_refl _) _
 have HK0:Hid (BK W.heap.size #[.string ⟨x.who.toArray⟩,.int .i64 x.ch,.string ⟨x.saw.toArray⟩] 47 w0):=hid (by rw [hw0]; exact BK.new _ _ _)
 have HB0:=hid hb0
 have HH:=hid (h.below hb0)
 have HSE:=hid (seenF_any a l c a2 m c2 x.who w0 HH.out.fl HH.out.fm hs hs2)
 have HEL:=hid (exL_len hs hs2)
 have HSM:=hid (exL_sm hs hs2 x.who)
 have HOK:=hid hok
 obtain ⟨p,hp⟩:∃ p,p=apP l m ch g s x:=⟨_,rfl⟩
 rw [<-hp]
 unfold apP sawL at hp
 have c1:=HH.out.b1.c1
 have c2':=HH.out.b2.c1
 obtain ⟨k0,k1,k2⟩:=HK0.out.c3
 obtain ⟨who,xc,saw⟩:=x
 simp only at hp HSE HSM k0 k1 k2 HK0 hw0 ⊢
 have HW0:=hid hw0
 rw [hw0] at c1 c2' k0 k1 k2 HSE
 obtain ⟨nl,hnl⟩:∃ nl,nl=l.length:=⟨_,rfl⟩
 obtain ⟨nm,hnm⟩:∃ nm,nm=m.length:=⟨_,rfl⟩
 rw [<-hnl] at c1 HSE
 rw [<-hnm] at c2' HSE
 have HP:=hid hp
 clear h hs hs2 hok hw0 hb0 hp hnl hnm
 simp only [List.append_toArray,List.nil_append,List.cons_append]
 go_enter Tryz.func12,Tryz.ntmps12
 go_wp2_with fail
 (with_reducible refine HSE.out.mono ?_)
 rintro e w1 ⟨hb1,sa,sn,sc,sk,rfl,hse⟩
 rcases hse with ⟨_,rfl,rfl,hsl,_⟩ | ⟨hno,_⟩
 case inr=>exact absurd HOK.out hno
 rw [<-HW0.out] at hb1
 have HB1:=hid (HB0.out.trans (hb1.mono HB0.out.size))
 have HH1:=hid (HH.out.below hb1)
 obtain ⟨k0,k1,k2⟩:=(HK0.out.below hb1).c3
 have c3:=HH1.out.b3.c1
 have c4:=HH1.out.b4.c1
 obtain ⟨s0,s1,s2,s3,s4⟩:=HH1.out.b5.c5
 have hsln:(seenL (exL l m) who).length<=400:=by
  have:=HEL.out
  unfold seenL
  rw [List.length_map]
  exact Nat.le_trans (List.length_filter_le _ _) this
 generalize seenL (exL l m) who=SL at HP hsl hsln HSM
 have HC1:=hid (fun Wx (hx:Below w1.heap.size w1 Wx)=>(contains_St who ga gc g Wx ((HH1.out.gr.below hx).mono hx.size) (by omega)).mono (fun e w' h=>(show e=Ending.returned (.bool (decide (who ∈ g)))/\Below Wx.heap.size Wx w' from ⟨h.1,by rw [h.2]; exact Below.refl _ _⟩)))
 have HC2:=hid (fun Wx (hx:Below w1.heap.size w1 Wx)=>contains_Fc s sa sc SL Wx ((hsl.below hx (Nat.le_refl _)).mono hx.size) (by omega))
 have HC3:=hid (fun Wx (hx:Below w1.heap.size w1 Wx)=>rEncode_any sa SL sc Wx ((hsl.below hx (Nat.le_refl _)).mono hx.size) (by omega) HSM.out)
 simp only [fcV] at HC2
 have HR1:=hid (fun d os=>Calls.regrown_of (w:=w1) (d:=d) (os:=os) (HC1.out _ (below_regrown w1 d os)))
 have HR2:=hid (fun d os=>Calls.regrown_of (w:=w1) (d:=d) (os:=os) (HC2.out _ (below_regrown w1 d os)))
 have HR3:=hid (fun d os=>Calls.regrown_of (w:=w1) (d:=d) (os:=os) (HC3.out _ (below_regrown w1 d os)))
 obtain ⟨gl,hgl⟩:∃ gl,gl=g.length:=⟨_,rfl⟩
 obtain ⟨sl,hsl2⟩:∃ sl,sl=SL.length:=⟨_,rfl⟩
 rw [<-hgl] at c4 HR1
 rw [<-hsl2] at HR2 HR3 hsln ⊢
 have rk0:=cell_regrown k0
 have rk1:=cell_regrown k1
 have rk2:=cell_regrown k2
 have rc3:=cell_regrown c3
 have rc4:=cell_regrown c4
 have rs0:=cell_regrown s0
 have rs1:=cell_regrown s1
 have rs2:=cell_regrown s2
 have rs3:=cell_regrown s3
 have rs4:=cell_regrown s4
 generalize decide (who ∈ g)=dg at HR1 HP
 generalize decide (s ∈ SL)=ds at HR2 HP
 generalize encL SL=EN at HR3 HP
 clear HC1 HC2 HC3 HSM HEL HSE HH HK0 hb1 HB0 hsl hgl hsl2 HOK HH1
 by_cases hx:xc=ch
 ·have hxe:(xc == ch)=true:=by simpa using hx
  have HP1:Hid (p=(dg && (ds && decide (saw=EN)))):=hid (by rw [HP.out,decide_eq_true hx,Bool.true_and])
  clear HP hx
  cases dg with
  | false=>
   have HP2:Hid (p=false):=hid HP1.out
   clear HP1
   go_wp2_with fail
   refine wp_region_quiet_below (by kernel_rfl) (by kernel_rfl) ?_
   repeat (any_goals (first | go_big_quiet_step (first | (with_reducible exact HR1.out _ _) | (with_reducible exact HR2.out _ _) | (with_reducible exact HR3.out _ _)) | quiet_step (first | (with_reducible exact HR1.out _ _) | (with_reducible exact HR2.out _ _) | (with_reducible exact HR3.out _ _))))
   refine wpQuiet_nil ?_
   intro w3 hw3
   have hbq:=below_rg hw3
   have HB3:=hid (HB1.out.trans (hbq.mono HB1.out.size))
   clear hbq hw3 HR1 HR2 HR3 rk0 rk1 rk2 rc3 rc4 rs0 rs1 rs2 rs3 rs4
   go_wp2_with fail
   go_ret
   exact ⟨by rw [HP2.out]; rfl,HB3.out⟩
  | true=>
   cases ds with
   | false=>
    have HP2:Hid (p=false):=hid HP1.out
    clear HP1
    go_wp2_with fail
    refine wp_region_quiet_below (by kernel_rfl) (by kernel_rfl) ?_
    repeat (any_goals (first | go_big_quiet_step (first | (with_reducible exact HR1.out _ _) | (with_reducible exact HR2.out _ _) | (with_reducible exact HR3.out _ _)) | quiet_step (first | (with_reducible exact HR1.out _ _) | (with_reducible exact HR2.out _ _) | (with_reducible exact HR3.out _ _))))
    refine wpQuiet_nil ?_
    intro w3 hw3
    have hbq:=below_rg hw3
    have HB3:=hid (HB1.out.trans (hbq.mono HB1.out.size))
    clear hbq hw3 HR1 HR2 HR3 rk0 rk1 rk2 rc3 rc4 rs0 rs1 rs2 rs3 rs4
    go_wp2_with fail
    go_ret
    exact ⟨by rw [HP2.out]; rfl,HB3.out⟩
   | true=>
    have HP2:Hid (p=(saw == EN)):=hid (by rw [HP1.out,Bool.true_and,Bool.true_and]; by_cases e:saw=EN <;> simp [e])
    clear HP1
    go_wp2_with fail
    refine wp_region_quiet_below (by kernel_rfl) (by kernel_rfl) ?_
    repeat (any_goals (first | go_big_quiet_step (first | (with_reducible exact HR1.out _ _) | (with_reducible exact HR2.out _ _) | (with_reducible exact HR3.out _ _)) | quiet_step (first | (with_reducible exact HR1.out _ _) | (with_reducible exact HR2.out _ _) | (with_reducible exact HR3.out _ _))))
    refine wpQuiet_nil ?_
    intro w3 hw3
    have hbq:=below_rg hw3
    have HB3:=hid (HB1.out.trans (hbq.mono HB1.out.size))
    clear hbq hw3 HR1 HR2 HR3 rk0 rk1 rk2 rc3 rc4 rs0 rs1 rs2 rs3 rs4
    go_wp2_with fail
    go_ret
    exact ⟨by rw [HP2.out]; rfl,HB3.out⟩
 ·have hxe:(xc == ch)=false:=by simpa using hx
  have HP2:Hid (p=false):=hid (by rw [HP.out,decide_eq_false hx,Bool.false_and])
  clear HP hx
  go_wp2_with fail
  refine wp_region_quiet_below (by kernel_rfl) (by kernel_rfl) ?_
  repeat (any_goals (first | go_big_quiet_step (first | (with_reducible exact HR1.out _ _) | (with_reducible exact HR2.out _ _) | (with_reducible exact HR3.out _ _)) | quiet_step (first | (with_reducible exact HR1.out _ _) | (with_reducible exact HR2.out _ _) | (with_reducible exact HR3.out _ _))))
  refine wpQuiet_nil ?_
  intro w3 hw3
  have hbq:=below_rg hw3
  have HB3:=hid (HB1.out.trans (hbq.mono HB1.out.size))
  clear hbq hw3 HR1 HR2 HR3 rk0 rk1 rk2 rc3 rc4 rs0 rs1 rs2 rs3 rs4
  go_wp2_with fail
  go_ret
  exact ⟨by rw [HP2.out]; rfl,HB3.out⟩
theorem req_has:∀ (gs acc:List (List Pa)) (g:List Pa),(g ∈ gs\/joinS g ∈ acc.map joinS)->joinS g ∈ (gs.foldl reqStep acc).map joinS
 | [],acc,g,h=>h.elim (fun h=>by cases h) id
 | x :: gs,acc,g,h=>by
  rw [List.foldl_cons]
  refine req_has gs _ g ?_
  rcases h with h | h
  ·rcases List.mem_cons.1 h with rfl | h
   ·refine .inr ?_
    unfold reqStep
    split
    ·assumption
    ·simp
   ·exact .inl h
  ·refine .inr ?_
   unfold reqStep
   split
   ·exact h
   ·rw [List.map_append]; exact List.mem_append_left _ h
theorem mkFc_path (p:Pa) (o n:Option Pa):(mkFc p o n).path=p:=rfl
theorem approved_law {l m:List Fl} {ch:Int} {A:List Ap} (hl:AscF l) (hm:AscF m) (hms:(missingS l m ch A).length=0) {p:Pa} (hd:dataF l p ≠ dataF m p) {g:List Pa} (hg:g ∈ groupsS l p):A.any (apP l m ch g (mkFc p (dataF l p) (dataF m p)))=true:=by
 have hc:mkFc p (dataF l p) (dataF m p) ∈ dfL l m:=df_mem p _ l m hl hm (Nat.le_refl _) hd
 generalize hC:mkFc p (dataF l p) (dataF m p)=C at hc ⊢
 have hcp:C.path=p:=by rw [<-hC]; rfl
 have h1:g ∈ ((dfL l m).map (·.path)).flatMap (groupsS l):=List.mem_flatMap.2 ⟨p,List.mem_map.2 ⟨C,hc,hcp⟩,hg⟩
 have h2:=req_has _ [] g (.inl h1)
 obtain ⟨g',hg',hj⟩:=List.mem_map.1 h2
 have hg'r:g' ∈ requiredS l m:=hg'
 obtain ⟨q,hq⟩:=req_mem hg'r
 have e:g' = g:=joinS_inj (groups_gd hq).1 (groups_gd hg).1 hj
 subst e
 have h3:missingS l m ch A=[]:=List.length_eq_zero_iff.1 hms
 unfold missingS at h3
 rw [List.filter_eq_nil_iff] at h3
 have h4:=h3 g' hg'r
 simp only [Bool.not_eq_true,Bool.not_eq_false',List.any_eq_true] at h4
 obtain ⟨s,hs,h5⟩:=h4
 unfold apprB at h5
 rw [List.any_eq_true] at h5
 obtain ⟨x,hx,h6⟩:=h5
 rw [Bool.and_eq_true,decide_eq_true_iff] at h6
 obtain ⟨rfl,h7⟩:=h6
 unfold okA at h7
 rw [Bool.and_eq_true,decide_eq_true_iff,decide_eq_true_iff] at h7
 rw [List.any_eq_true]
 refine ⟨x,hx,?_⟩
 unfold apP
 have h8:C ∈ seenL (exL l m) x.who:=by
  unfold seenL exL
  refine List.mem_map.2 ⟨(C,groupsS l C.path),List.mem_filter.2 ⟨List.mem_map.2 ⟨C,hc,rfl⟩,?_⟩,rfl⟩
  unfold mineB
  rw [List.any_eq_true]
  exact ⟨g',by rw [hcp]; exact hg,by simpa using hs⟩
 rw [decide_eq_true h7.1,decide_eq_true hs,decide_eq_true h8,decide_eq_true h7.2]
 rfl
theorem approved_ok {l m:List Fl} (hl:AscF l) (hm:AscF m) (h:exOk l m) {p:Pa} (hd:dataF l p ≠ dataF m p):grOk l p:=
 ⟨h.1,(h.2.2 _ (df_mem p _ l m hl hm (Nat.le_refl _) hd)).2⟩
theorem dataF_mem {l:List Fl} {p:Pa} (h:dataF l p ≠ none):∃ x ∈ l,x.path=p:=by
 refine Classical.byContradiction fun hn=>h (dataF_none fun x hx e=>hn ⟨x,hx,e⟩)
def aOwn:Pa:=[79,87,78,69,82,83]
def aRul:Pa:=[97,108,108,32,103,114,111,117,112,32,97,110,110,32,59]
def aAnn:Pa:=[97,110,110]
def aOld:List Fl:=[⟨aOwn,aRul⟩,⟨[120],[49]⟩]
def aNew:List Fl:=[⟨aOwn,aRul⟩,⟨[120],[50]⟩]
theorem a_df:dfL aOld aNew=[mkFc [120] (some [49]) (some [50])]:=by decide +kernel
theorem a_req:requiredS aOld aNew=[[aAnn]]:=by decide +kernel
theorem a_ok:exOk aOld aNew:=by
 refine ⟨by decide +kernel,by decide +kernel,fun c hc=>?_⟩
 rw [a_df] at hc
 obtain rfl:=List.mem_singleton.1 hc
 exact ⟨by decide +kernel,by decide +kernel⟩
theorem a_sm:Sm1 aOld/\Sm1 aNew:=by
 refine ⟨⟨by decide,fun x hx=>?_⟩,⟨by decide,fun x hx=>?_⟩⟩
 ·simp only [aOld,List.mem_cons,List.not_mem_nil,or_false] at hx
  rcases hx with rfl | rfl <;> decide
 ·simp only [aNew,List.mem_cons,List.not_mem_nil,or_false] at hx
  rcases hx with rfl | rfl <;> decide
theorem a_none:(missingS aOld aNew 1 []).length=1:=by
 unfold missingS; rw [a_req]; rfl
theorem a_all:(missingS aOld aNew 1 [⟨aAnn,1,sawL (exL aOld aNew) aAnn⟩]).length=0:=by
 unfold missingS; rw [a_req]
 simp [apprB,okA]
theorem fls_two {b:Nat} {W:World} {p d q e:Pa} (h:BK b #[.string ⟨p.toArray⟩,.string ⟨d.toArray⟩,.string ⟨q.toArray⟩,.string ⟨e.toArray⟩] 55 W):Fls W.heap.size W (some ⟨b,0,none⟩) [⟨p,d⟩,⟨q,e⟩]:=fun i hi=>by
 obtain ⟨c0,c1,c2,c3⟩:=h.c4
 refine ⟨b,0,rfl,h.lt,fun j v hv=>?_⟩
 match i,hi with
 | 0,_=>
  match j,hv with
  | 0,hv=>injection hv with hv; rw [<-hv]; exact c0
  | 1,hv=>injection hv with hv; rw [<-hv]; exact c1
 | 1,_=>
  match j,hv with
  | 0,hv=>injection hv with hv; rw [<-hv]; exact c2
  | 1,hv=>injection hv with hv; rw [<-hv]; exact c3
theorem aps_one {b:Nat} {W:World} {x:Ap} (h:BK b #[.string ⟨x.who.toArray⟩,.int .i64 x.ch,.string ⟨x.saw.toArray⟩] 47 W):Aps W.heap.size W (some ⟨b,0,none⟩) [x]:=fun i hi=>by
 obtain ⟨c0,c1,c2⟩:=h.c3
 refine ⟨b,0,rfl,h.lt,fun j v hv=>?_⟩
 match i,hi with
 | 0,_=>
  match j,hv with
  | 0,hv=>injection hv with hv; rw [<-hv]; exact c0
  | 1,hv=>injection hv with hv; rw [<-hv]; exact c1
  | 2,hv=>injection hv with hv; rw [<-hv]; exact c2
theorem aw55_any (w:World):Calls Tryz.prog 6 #[] w fun e w'=>e = .returned (.bool true)/\Below w.heap.size w w':=by
 obtain ⟨u1,hu1⟩:∃ u1,u1=w.alloc (.cells #[.string ⟨aOwn.toArray⟩,.string ⟨aRul.toArray⟩,.string ⟨([120]:Pa).toArray⟩,.string ⟨([49]:Pa).toArray⟩] 55):=⟨_,rfl⟩
 obtain ⟨u2,hu2⟩:∃ u2,u2=u1.alloc (.cells #[.string ⟨aOwn.toArray⟩,.string ⟨aRul.toArray⟩,.string ⟨([120]:Pa).toArray⟩,.string ⟨([50]:Pa).toArray⟩] 55):=⟨_,rfl⟩
 have hk1:BK w.heap.size #[.string ⟨aOwn.toArray⟩,.string ⟨aRul.toArray⟩,.string ⟨([120]:Pa).toArray⟩,.string ⟨([49]:Pa).toArray⟩] 55 u1:=by rw [hu1]; exact BK.new _ _ _
 have hk2:BK (w.heap.size + 1) #[.string ⟨aOwn.toArray⟩,.string ⟨aRul.toArray⟩,.string ⟨([120]:Pa).toArray⟩,.string ⟨([50]:Pa).toArray⟩] 55 u2:=by rw [hu2,hu1]; exact BK.new2 _ _ _ _
 have hb1:Below w.heap.size w u1:=by rw [hu1]; exact (Below.refl _ _).alloc (Nat.le_refl _) _
 have hb2:Below u1.heap.size u1 u2:=by rw [hu2]; exact (Below.refl _ _).alloc (Nat.le_refl _) _
 have HB2:=hid (hb1.trans (hb2.mono hb1.size))
 have HF1:Hid (Fls u2.heap.size u2 (some ⟨w.heap.size,0,none⟩) aOld):=hid (fls_two (hk1.below hb2))
 have HF2:Hid (Fls u2.heap.size u2 (some ⟨w.heap.size + 1,0,none⟩) aNew):=hid (fls_two hk2)
 have HSW:=hid (saw_any (some ⟨w.heap.size,0,none⟩) aOld 2 (some ⟨w.heap.size + 1,0,none⟩) aNew 2 aAnn u2 HF1.out HF2.out a_sm.1 a_sm.2)
 have HU2:=hid (hu2.trans (by rw [hu1]))
 rw [HU2.out] at HSW
 clear hu1 hu2 hk1 hk2 hb1 hb2
 simp only [aOwn,aRul,aAnn,show aOld.length=2 from rfl,show aNew.length=2 from rfl] at HSW HU2
 go_enter Tryz.func6,Tryz.ntmps6
 go_wp2_with fail
 (with_reducible refine HSW.out.mono ?_)
 rintro e u3 ⟨hb3,S,k,rfl,hk⟩
 rcases hk with ⟨_,rfl,rfl⟩ | ⟨hno,_⟩
 case inr=>exact absurd a_ok hno
 rw [<-HU2.out] at hb3
 obtain ⟨u4,hu4⟩:∃ u4,u4=u3.alloc (.cells #[.string ⟨aAnn.toArray⟩,.int .i64 1,.string ⟨(sawL (exL aOld aNew) aAnn).toArray⟩] 47):=⟨_,rfl⟩
 have hk4:BK u3.heap.size #[.string ⟨aAnn.toArray⟩,.int .i64 1,.string ⟨(sawL (exL aOld aNew) aAnn).toArray⟩] 47 u4:=by rw [hu4]; exact BK.new _ _ _
 have hb4:Below u2.heap.size u2 u4:=by rw [hu4]; exact hb3.alloc hb3.size _
 have HB4:=hid (HB2.out.trans (hb4.mono HB2.out.size))
 have HF1':=hid ((HF1.out.below hb4 (Nat.le_refl _)).mono hb4.size)
 have HF2':=hid ((HF2.out.below hb4 (Nat.le_refl _)).mono hb4.size)
 have HM1:=hid (missing_any (some ⟨u3.heap.size,0,none⟩) [⟨aAnn,1,sawL (exL aOld aNew) aAnn⟩] 1 1 (some ⟨w.heap.size,0,none⟩) aOld 2 (some ⟨w.heap.size + 1,0,none⟩) aNew 2 u4 (aps_one hk4) HF1'.out HF2'.out a_sm.1 a_sm.2 (by simp) (fun x hx=>by obtain rfl:=List.mem_singleton.1 hx; simp [aAnn]))
 have HM2:=hid (fun W (hb:Below u4.heap.size u4 W)=>missing_any none [] 0 1 (some ⟨w.heap.size,0,none⟩) aOld 2 (some ⟨w.heap.size + 1,0,none⟩) aNew 2 W (GIn.nil _ _ _) ((HF1'.out.below hb (Nat.le_refl _)).mono hb.size) ((HF2'.out.below hb (Nat.le_refl _)).mono hb.size) a_sm.1 a_sm.2 (by simp) (fun x hx=>by cases hx))
 unfold GotMi at HM1 HM2
 rw [a_all] at HM1
 have HN:=hid a_none
 have HU4:=hid hu4
 simp only [aAnn,show aOld.length=2 from rfl,show aNew.length=2 from rfl,List.length_cons,List.length_nil,Nat.zero_add] at HM1 HM2 HU4 ⊢
 generalize sawL (exL aOld aNew) [97,110,110]=S at HM1 HU4 ⊢
 rw [HU4.out] at HM1
 clear hu4 hk4 hb4 hb3 HSW HF1 HF2 HF1' HF2' HU2 HB2
 go_wp2_with fail
 (with_reducible refine HM1.out.mono ?_)
 rintro e u5 ⟨hb5,ma,mn,mc,mk,rfl,hm⟩
 rw [<-HU4.out] at hb5
 rcases hm with ⟨_,rfl,rfl⟩ | ⟨hno,_⟩
 case inr=>exact absurd a_ok hno
 have HM5:=hid (HM2.out u5 hb5)
 have HB5:=hid (HB4.out.trans (hb5.mono HB4.out.size))
 clear hb5 HM1 HM2 HB4
 go_wp2_with fail
 (with_reducible refine HM5.out.mono ?_)
 rintro e u6 ⟨hb6,qa,qn,qc,qk,rfl,hm⟩
 rcases hm with ⟨_,rfl,hq⟩ | ⟨hno,_⟩
 case inr=>exact absurd a_ok hno
 rw [HN.out] at hq
 subst hq
 have HB6:=hid (HB5.out.trans (hb6.mono HB5.out.size))
 clear hb6 HM5
 go_wp2_with fail
 go_ret
 exact ⟨rfl,HB6.out⟩
end Go.Proofs.YtdedfkljaeloiaaGreatDoor
