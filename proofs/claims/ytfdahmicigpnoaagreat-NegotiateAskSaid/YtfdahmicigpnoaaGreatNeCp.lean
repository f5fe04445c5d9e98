/- slices.Compact at digests. -/
import Derived.Test.YtfdahmicigpnoaaGreatNeLi
import Derived.Test.YtfdahmicigpnoaaGreatK7
set_option maxRecDepth 100000
set_option maxHeartbeats 16000000
open Go.Lib (hid)
namespace Go.Proofs.YtfdahmicigpnoaaGreat
open Go.RowKit Go.Shelf Go.Sort
set_option linter.unusedVariables false
def compF:Int × Int->List (Int × Int)->List (Int × Int)
 | _,[]=>[]
 | x,y :: l=>if y=x then compF x l else y :: compF y l
def compS:List (Int × Int)->List (Int × Int)
 | []=>[]
 | x :: l=>x :: compF x l
theorem compF_snoc:∀ (l:List (Int × Int)) (x z:Int × Int),compF x (l ++ [z])=if z=(x :: l).getLast (by simp) then compF x l else compF x l ++ [z]
 | [],x,z=>by
  by_cases h:z=x <;> simp [compF,h]
 | y :: l,x,z=>by
  rw [List.cons_append]
  by_cases h:y=x
  ·subst h
   have:=compF_snoc l y z
   simp only [compF,if_true]
   rw [this]
   simp [List.getLast_cons]
  ·have:=compF_snoc l y z
   simp only [compF,if_neg h]
   rw [this]
   simp only [List.getLast_cons (by simp:y :: l ≠ [])]
   split <;> simp
theorem compS_take {ds:List (Int × Int)} {j:Nat} (h:j + 1 < ds.length):compS (ds.take (j + 2))=if ds[j + 1]=ds[j] then compS (ds.take (j + 1)) else compS (ds.take (j + 1)) ++ [ds[j + 1]]:=by
 rw [List.take_succ_eq_append_getElem (by omega:j + 1 < ds.length)]
 cases ds with
 | nil=>simp at h
 | cons x l=>
  have h2:(x :: l).take (j + 1)=x :: l.take j:=by simp
  rw [h2,List.cons_append]
  simp only [compS]
  rw [compF_snoc]
  have h3:(x :: l.take j).getLast (by simp)=(x :: l)[j]:=by
   rw [List.getLast_eq_getElem]
   simp only [List.length_cons,List.length_take]
   have h4:min j l.length + 1 - 1=j:=by simp at h; omega
   simp only [h4]
   have h5:(x :: l.take j)=(x :: l).take (j + 1):=by simp
   simp only [h5,List.getElem_take]
  rw [h3]
  split <;> simp
theorem comp_law:∀ (l:List (Int × Int)) (x:Int × Int),(x :: l).Pairwise (fun a b=>¬ cmpD b a < 0)->AscD (x :: compF x l)/\∀ z,z ∈ x :: compF x l ↔ z ∈ x :: l
 | [],x,_=>⟨List.pairwise_singleton _ _,fun z=>by simp [compF]⟩
 | y :: l,x,h=>by
  obtain ⟨h1,h2⟩:=List.pairwise_cons.1 h
  by_cases e:y=x
  ·subst e
   obtain ⟨g1,g2⟩:=comp_law l y h2
   simp only [compF,if_true]
   refine ⟨g1,fun z=>?_⟩
   rw [g2 z]; simp
  ·obtain ⟨g1,g2⟩:=comp_law l y h2
   simp only [compF,if_neg e]
   have hxy:cmpD x y < 0:=by
    have a1:=h1 y (by simp)
    have a2:=cmpD_anti (a:=x) (b:=y)
    have a3:cmpD x y ≠ 0:=fun e2=>e (cmpD_zero.1 e2).symm
    omega
   refine ⟨List.Pairwise.cons (fun z hz=>?_) g1,fun z=>?_⟩
   ·rcases List.mem_cons.1 hz with rfl | hz
    ·exact hxy
    ·exact cmpD_trans hxy ((List.pairwise_cons.1 g1).1 z hz)
   ·rw [List.mem_cons,g2 z]; simp
theorem comp_sort (l:List (Int × Int)):compS (sortS l)=l.foldl withS []:=by
 have h1:(sortS l).Pairwise (fun a b=>¬ cmpD b a < 0):=by
  have:=List.pairwise_mergeSort (le:=fun x y=>!(ltOf cmpD) y x) (fun a b c h1 h2=>by
   simp only [Bool.not_eq_true'] at h1 h2 ⊢
   exact swoD.ntrans c b a h2 h1) (fun a b=>by
   unfold ltOf
   by_cases g:cmpD b a < 0
   ·have:=cmpD_anti (a:=a) (b:=b)
    have h3:¬ cmpD a b < 0:=by omega
    simp [g,h3]
   ·simp [g]) l
  refine this.imp ?_
  intro x y hxy
  unfold ltOf at hxy
  simpa using hxy
 obtain ⟨g1,g2⟩:=foldl_with l [] List.Pairwise.nil
 have hm:∀ z,z ∈ sortS l ↔ z ∈ l:=fun z=>(sortS_perm l).mem_iff
 generalize sortS l=s at h1 hm
 cases s with
 | nil=>
  have:l=[]:=by rw [List.eq_nil_iff_forall_not_mem]; intro z hz; have:=(hm z).2 hz; simp at this
  subst this; rfl
 | cons x s=>
  obtain ⟨f1,f2⟩:=comp_law s x h1
  refine ascD_ext f1 g1 (fun z=>?_)
  rw [g2 z,show (z ∈ compS (x :: s))=(z ∈ x :: compF x s) from rfl,f2 z,hm z]
  simp
theorem dcells_set (ds:List (Int × Int)) (i:Nat) (x y:Int):((dcells ds).set (i * 2) (.int .u64 x)).set (i * 2 + 1) (.int .u64 y)=dcells (ds.set i (x,y)):=by
 induction ds generalizing i with
 | nil=>simp [dcells]
 | cons d ds ih=>
  cases i with
  | zero=>simp [dcells]
  | succ i=>
   have:=ih i
   simp only [dcells,List.flatMap_cons,List.set_cons_succ] at this ⊢
   rw [show (i + 1) * 2=i * 2 + 2 by omega]
   simp [this]
theorem dcells_take (ds:List (Int × Int)) (k:Nat):(dcells ds).take (k * 2)=dcells (ds.take k):=by
 induction ds generalizing k with
 | nil=>simp [dcells]
 | cons d ds ih=>
  cases k with
  | zero=>simp [dcells]
  | succ k=>
   have:=ih k
   simp only [dcells,List.flatMap_cons,List.take_succ_cons] at this ⊢
   rw [show (k + 1) * 2=k * 2 + 2 by omega]
   simp [this]
theorem own_shrink {W:World} {base:Nat} {e:TypeId} {z:Nat} {g n c k:Nat} {xs:List Value} (h:W.ownsRow base e z (.slice (some ⟨g,0,none⟩) n c) n xs) (hk:k<=n):W.ownsRow base e z (.slice (some ⟨g,0,none⟩) k c) k (xs.take (k * z)):=by
 obtain ⟨h1,h2⟩:=h
 have hkz:k * z<=n * z:=Nat.mul_le_mul_right _ hk
 rcases h2 with ⟨h3,_⟩ | ⟨g',c',cur,h3,h4,h5,h6,h7,h8,h9⟩
 ·cases h3
 ·cases h3
  refine ⟨by rw [List.length_take,h1]; omega,.inr ⟨g,c,cur,rfl,h4,h5,by omega,h7,h8,?_⟩⟩
  rw [<-h9,List.take_take,Nat.min_eq_left hkz]
theorem own_setCells {base:Nat} {e:TypeId} {z:Nat} {g n c:Nat}:∀ (vs:List Value) (o:Nat) (W:World) (xs:List Value),W.ownsRow base e z (.slice (some ⟨g,0,none⟩) n c) n xs->∃ xs',(W.setCells g o vs).ownsRow base e z (.slice (some ⟨g,0,none⟩) n c) n xs'/\(∀ k,k<=o->xs'.take k=xs.take k)/\W.grownBy (W.setCells g o vs) (some g)
 | [],o,W,xs,h=>⟨xs,h,fun _ _=>rfl,⟨rfl,rfl,rfl,Nat.le_refl _,fun _ _ _=>rfl⟩⟩
 | v :: vs,o,W,xs,h=>by
  obtain ⟨h1,h2⟩:=h.stored o v
  obtain ⟨xs',h3,h4,h5⟩:=own_setCells vs (o + 1) _ _ h1
  refine ⟨xs',h3,fun k hk=>?_,gtrans h2 h5⟩
  rw [h4 k (by omega),List.take_set_of_le (by omega)]
theorem dig_at {ds:List (Int × Int)} {i:Nat} (h:i < ds.length):(dcells ds)[i * 2]? = some (.int .u64 ds[i].1)/\(dcells ds)[i * 2 + 1]? = some (.int .u64 ds[i].2):=by
 induction ds generalizing i with
 | nil=>simp at h
 | cons d ds ih=>
  cases i with
  | zero=>simp [dcells]
  | succ i=>
   have:=ih (by simpa using h)
   simp only [dcells,List.flatMap_cons] at this ⊢
   rw [show (i + 1) * 2=i * 2 + 2 by omega]
   simpa using this
theorem run_clear_dig (w:World) (b o n c:Nat) (hn:0 < n) (hc:∀ j,j < n * 2->(w.cell? ⟨b,o + j,none⟩).isSome=true) (hf:∀ j,j < n * 2->w.frozen? ⟨b,o + j,none⟩=false) :
  ∃ vs,∀ ty,(Builtin.clear_ #[24] ty #[.slice (some ⟨b,o,none⟩) n c]).run Tryz.prog w = .ok (.tuple #[]) (w.setCells b o vs):=by
 obtain ⟨i0,hi,hz0,hz1,hz2⟩:=info_parts infoDig
 have hv:∀ w,(zeroValue 41).run Tryz.prog w = .ok (.agg #[.int .u64 0,.int .u64 0]) w:=fun w=>by simp [zeroValue,typeInfo,hi,hz0]
 obtain ⟨vs,hvs⟩:∃ vs,vs=(Builtin.zeroCells (Value.agg #[.int .u64 0,.int .u64 0]).cells n).toList:=⟨_,rfl⟩
 have hl:vs.length=n * 2:=by rw [hvs,Array.length_toList,size_zeroCells]; rfl
 have h1:∀ v ∈ vs,v.oneCell' = true:=by
  intro v hv
  rw [hvs] at hv
  simp only [Builtin.zeroCells,Array.toList_map,List.mem_map] at hv
  obtain ⟨i,_,rfl⟩:=hv
  have:i % (Value.agg #[.int .u64 0,.int .u64 0]).cells.size < 2:=Nat.mod_lt _ (by decide)
  rcases (by omega:i % (Value.agg #[.int .u64 0,.int .u64 0]).cells.size=0\/i % (Value.agg #[.int .u64 0,.int .u64 0]).cells.size=1) with e | e <;> rw [e] <;> rfl
 refine ⟨vs,fun ty=>?_⟩
 have hst:=run_storeCells_cells (P:=Tryz.prog) b o vs 0 w (by rw [hl]; simpa using hc) (by rw [hl]; simpa using hf) h1
 simp only [Nat.add_zero] at hst
 rw [hvs] at hst
 obtain ⟨m,rfl⟩:∃ m,n=m + 1:=⟨n - 1,by omega⟩
 simp [Builtin.clear_,run_underlying Tryz.underlying24,hv,hst,hvs]
theorem comp_small {ds:List (Int × Int)} (h:ds.length < 2):compS ds=ds:=by
 match ds,h with
 | [],_=>rfl
 | [x],_=>rfl
theorem compactD_any {base:Nat} (a:Option Addr) (c:Nat) (ds:List (Int × Int)) (hn:(ds.length:Int)<=1000000) (w:World) (ho:w.ownsRow base 41 2 (.slice a ds.length c) ds.length (dcells ds)) :
  Calls Tryz.prog 139 #[.slice a ds.length c] w fun e w'=>e = .returned (.slice a (compS ds).length c)/\w'.ownsRow base 41 2 (.slice a (compS ds).length c) (compS ds).length (dcells (compS ds))/\w.grownBy w' (Value.slice a ds.length c).ownBlock:=by
 by_cases h2:ds.length < 2
 ·have hc:=comp_small h2
  rw [hc]
  have HO:=hid ho
  clear ho hc
  generalize ds.length=n at h2 hn HO ⊢
  have hn2:(n:Int) < 2:=by omega
  go_enter Tryz.func139,Tryz.ntmps139
  go_wp2_with fail
  go_ret
  exact ⟨rfl,HO.out,⟨rfl,rfl,rfl,Nat.le_refl _,fun _ _ _=>rfl⟩⟩
 ·obtain ⟨g,rfl,hg0,hg1⟩:=ownsRow_some ho (by omega)
  have hcap:=own_cap ho
  obtain ⟨R,hR⟩:∃ R,R=compS ds:=⟨_,rfl⟩
  rw [<-hR]
  have HO1:=hid ho
  have HC:=hid (fun j (h:j + 1 < ds.length)=>compS_take h)
  obtain ⟨n,hnn⟩:∃ n,n=ds.length:=⟨_,rfl⟩
  rw [<-hnn] at HO1 hn h2 hcap ⊢
  have HN:=hid hnn
  have HR:=hid hR
  have hn2:¬ (n:Int) < 2:=by omega
  have HI1:Hid (compS (ds.take 1)=ds.take 1):=hid (comp_small (by simp; omega))
  have HG1:Hid (w.grownBy w (some g)):=hid ⟨rfl,rfl,rfl,Nat.le_refl _,fun _ _ _=>rfl⟩
  clear ho hnn hR
  show Calls _ _ _ _ (fun e w'=>_/\_/\w.grownBy w' (some g))
  go_enter Tryz.func139,Tryz.ntmps139
  go_wp2_with fail
  go_loopw [3] (fun i wr=>∃ k:Nat,1<=k/\k<=n/\i = .int .i64 k/\Hid (compS (ds.take k)=ds.take k)/\Hid (wr.ownsRow base 41 2 (.slice (some ⟨g,0,none⟩) n c) n (dcells ds))/\Hid (w.grownBy wr (some g))) (fun i _=>n - (intOf i).toNat)
  case atStart=>exact ⟨1,by omega,by omega,rfl,HI1,HO1,HG1⟩
  case round=>
   clear HI1 HO1 HG1
   obtain ⟨k,hk1,hk,rfl,HI,HO,HG⟩:=hrel
   by_cases hkn:k < n
   ·have hki:(k:Int) < (n:Int):=by omega
    obtain ⟨j,hj⟩:∃ j,k=j + 1:=⟨k - 1,by omega⟩
    have hjk:(k:Int) - 1=(j:Int):=by omega
    have hjw:IntKind.i64.wrap ((k:Int) - 1)=(j:Int):=by rw [hjk]; exact wrap_i64 (by omega) (by omega)
    have hjn:(j:Int) < (n:Int):=by omega
    have h1:k < ds.length:=by have:=HN.out; omega
    have h3:j < ds.length:=by omega
    obtain ⟨p0,p1⟩:=dig_at h1
    obtain ⟨r0,r1⟩:=dig_at h3
    have c0:wr.cell? ⟨g,k * 2,none⟩=some (.int .u64 ds[k].1):=by rw [HO.out.cellAt (k * 2) (by omega),p0]
    have c1:wr.cell? ⟨g,k * 2 + 1,none⟩=some (.int .u64 ds[k].2):=by rw [HO.out.cellAt (k * 2 + 1) (by omega),p1]
    have b0:wr.cell? ⟨g,j * 2,none⟩=some (.int .u64 ds[j].1):=by rw [HO.out.cellAt (j * 2) (by omega),r0]
    have b1:wr.cell? ⟨g,j * 2 + 1,none⟩=some (.int .u64 ds[j].2):=by rw [HO.out.cellAt (j * 2 + 1) (by omega),r1]
    have hct:compS (ds.take (k + 1))=if ds[k]=ds[j] then compS (ds.take k) else compS (ds.take k) ++ [ds[k]]:=by subst hj; exact HC.out j h1
    have htk:ds.take (k + 1)=ds.take k ++ [ds[k]]:=List.take_succ_eq_append_getElem h1
    have HCT:=hid hct
    have HTK:=hid htk
    clear p0 p1 r0 r1 hct htk
    generalize ds[k]=dk at c0 c1 HCT HTK
    generalize ds[j]=dj at b0 b1 HCT
    obtain ⟨x1,y1⟩:=dk
    obtain ⟨x0,y0⟩:=dj
    simp only at c0 c1 b0 b1
    have rc0:=cell_regrown c0
    have rc1:=cell_regrown c1
    have rb0:=cell_regrown b0
    have rb1:=cell_regrown b1
    have qe:=fun W=>eql_dig x1 y1 x0 y0 W
    have HJ:=hid hj
    clear hj
    cases hz:(x1 == x0 && y1 == y0) with
    | false=>
     rw [hz] at qe
     have hne:¬ (x1,y1)=(x0,y0):=fun e=>by
      rw [Prod.mk.injEq] at e; simp [e.1,e.2] at hz
     have HI2:Hid (compS (ds.take (k + 1))=ds.take (k + 1)):=hid (by rw [HCT.out,if_neg hne,HI.out,HTK.out])
     clear hz hne HI HCT HTK
     go_wp2_with fail
     refine wp_region_quiet_below (by kernel_rfl) (by kernel_rfl) ?_
     repeat (any_goals (first | go_big_quiet_step (fail) | quiet_step (fail)))
     refine wpQuiet_nil ?_
     intro w2 hw2
     have hb:=below_rg hw2
     have HO2:=hid (own_below HO.out hb)
     have HG2:=hid (gtrans HG.out (grown_none hb (some g)))
     clear hb hw2 HO HG c0 c1 b0 b1 rc0 rc1 rb0 rb1 qe
     go_wp2_with fail
     go_roundw
     case rel=>exact ⟨k + 1,by omega,by omega,by go_num,HI2,HO2,HG2⟩
     case measure=>simp [intOf] <;> omega
    | true=>
     rw [hz] at qe
     have heq:(x1,y1)=(x0,y0):=by
      simp only [Bool.and_eq_true,beq_iff_eq] at hz
      rw [hz.1,hz.2]
     have HI2:Hid (ds.take k=compS (ds.take (k + 1))):=hid (by rw [HCT.out,if_pos heq,HI.out])
     have hsl:∀ W,(Instr.slice 24 (.slice (some ⟨g,0,none⟩) n c) (some (.int .i64 (k:Int))) none none).run Tryz.prog W = .ok (.slice (some ⟨g,k * 2,none⟩) (n - k) (c - k)) W:=fun W=>by
      rw [run_slice_l (P:=Tryz.prog) W 24 (some ⟨g,0,none⟩) n c (by kernel_rfl) .i64 (k:Int) (by omega) (by omega),size_dig]
      have:c ≠ k:=by omega
      simp [sliced,Result.andThen,this,Go.WideShapes.add_plain]
     obtain ⟨m,hm⟩:∃ m,m=n - k:=⟨_,rfl⟩
     obtain ⟨cm,hcm⟩:∃ m,m=c - k:=⟨_,rfl⟩
     rw [<-hm,<-hcm] at hsl
     have HM:=hid hm
     clear hz heq HI HCT HTK hm hcm
     go_wp2_with fail
     refine wp_region_quiet_below (by kernel_rfl) (by kernel_rfl) ?_
     repeat (any_goals (first | go_big_quiet_step (fail) | quiet_step (fail)))
     refine wpQuiet_nil ?_
     intro w2 hw2
     have hb:=below_rg hw2
     have HO2:=hid (own_below HO.out hb)
     have HG2:=hid (gtrans HG.out (grown_none hb (some g)))
     clear hb hw2 HO HG c0 c1 b0 b1 rc0 rc1 rb0 rb1 qe
     go_wp2_with fail
     obtain ⟨w3,hw3⟩:∃ w3,w3=w2:=⟨_,rfl⟩
     rw [<-hw3] at HO2 HG2 ⊢
     have HRL:Hid (ds.length=n):=hid HN.out.symm
     have HRW:Hid (∀ i (h:i < ds.length) (h':i < ds.length),k + 1 - 1<=i->ds[i]=ds[i]):=hid (fun _ _ _ _=>rfl)
     clear hw3
     go_loopw [3,5] (fun kv k2v wr=>∃ (kk k2:Nat) (row:List (Int × Int)),1<=kk/\1<=k2/\kk + 1<=k + k2/\k2<=m/\kv = .int .i64 kk/\k2v = .int .i64 k2/\Hid (row.length=n)/\Hid (row.take kk=compS (ds.take (k + k2)))/\Hid (∀ i (h:i < row.length) (h':i < ds.length),k + k2 - 1<=i->row[i]=ds[i])/\Hid (wr.ownsRow base 41 2 (.slice (some ⟨g,0,none⟩) n c) n (dcells row))/\Hid (w.grownBy wr (some g))) (fun _ k2v _=>m - (intOf k2v).toNat)
     case atStart=>exact ⟨k,1,ds,by omega,by omega,by omega,by have:=HM.out; omega,rfl,rfl,HRL,HI2,HRW,HO2,HG2⟩
     case round=>
      clear HI2 HO2 HG2 HRL HRW
      obtain ⟨kk,k2,row,hk1,hk2,hkk,hkm,rfl,rfl,HRL,HRT,HRS,HO,HG⟩:=hrel
      have hm1:k + m<=n:=by have:=HM.out; omega
      have hm2:n<=k + m:=by have:=HM.out; omega
      have hn6:(n:Int)<=1000000:=hn
      by_cases hlt:k2 < m
      ·have hli:(k2:Int) < (m:Int):=by omega
       obtain ⟨j2,hj2⟩:∃ j,k2=j + 1:=⟨k2 - 1,by omega⟩
       have hjk:(k2:Int) - 1=(j2:Int):=by omega
       have hjw:IntKind.i64.wrap ((k2:Int) - 1)=(j2:Int):=by rw [hjk]; exact wrap_i64 (by omega) (by omega)
       have hjn:(j2:Int) < (m:Int):=by omega
       have hd1:k + k2 < ds.length:=by have:=HN.out; omega
       have hd0:k + j2 < ds.length:=by omega
       have hr1:k + k2 < row.length:=by rw [HRL.out]; omega
       have hr0:k + j2 < row.length:=by omega
       obtain ⟨p0,p1⟩:=dig_at hr1
       obtain ⟨r0,r1⟩:=dig_at hr0
       rw [HRS.out _ hr1 hd1 (by omega)] at p0 p1
       rw [HRS.out _ hr0 hd0 (by omega)] at r0 r1
       have c0:wr.cell? ⟨g,k * 2 + k2 * 2,none⟩=some (.int .u64 ds[k + k2].1):=by rw [show k * 2 + k2 * 2=(k + k2) * 2 by omega,HO.out.cellAt _ (by omega),p0]
       have c1:wr.cell? ⟨g,k * 2 + k2 * 2 + 1,none⟩=some (.int .u64 ds[k + k2].2):=by rw [show k * 2 + k2 * 2 + 1=(k + k2) * 2 + 1 by omega,HO.out.cellAt _ (by omega),p1]
       have b0:wr.cell? ⟨g,k * 2 + j2 * 2,none⟩=some (.int .u64 ds[k + j2].1):=by rw [show k * 2 + j2 * 2=(k + j2) * 2 by omega,HO.out.cellAt _ (by omega),r0]
       have b1:wr.cell? ⟨g,k * 2 + j2 * 2 + 1,none⟩=some (.int .u64 ds[k + j2].2):=by rw [show k * 2 + j2 * 2 + 1=(k + j2) * 2 + 1 by omega,HO.out.cellAt _ (by omega),r1]
       have hct:compS (ds.take (k + k2 + 1))=if ds[k + k2]=ds[k + j2] then compS (ds.take (k + k2)) else compS (ds.take (k + k2)) ++ [ds[k + k2]]:=by subst hj2; exact HC.out (k + j2) hd1
       have HCT:=hid hct
       have HRS2:Hid (∀ i (h:i < row.length) (h':i < ds.length),k + k2<=i->row[i]=ds[i]):=hid (fun i h h' hi=>HRS.out i h h' (by omega))
       clear p0 p1 r0 r1 hct hj2 HRS
       generalize ds[k + k2]=dk at c0 c1 HCT
       generalize ds[k + j2]=dj at b0 b1 HCT
       obtain ⟨x1,y1⟩:=dk
       obtain ⟨x0,y0⟩:=dj
       simp only at c0 c1 b0 b1
       have rc0:=cell_regrown c0
       have rc1:=cell_regrown c1
       have rb0:=cell_regrown b0
       have rb1:=cell_regrown b1
       have qn:=fun W=>neq_dig x1 y1 x0 y0 W
       cases hz:(x1 == x0 && y1 == y0) with
       | true=>
        rw [hz] at qn
        simp only [Bool.not_true] at qn
        have heq:(x1,y1)=(x0,y0):=by
         simp only [Bool.and_eq_true,beq_iff_eq] at hz
         rw [hz.1,hz.2]
        have HRT2:Hid (row.take kk=compS (ds.take (k + (k2 + 1)))):=hid (by rw [HRT.out,<-Nat.add_assoc,HCT.out,if_pos heq])
        clear hz heq HRT HCT
        go_wp2_with fail
        refine wp_region_quiet_below (by kernel_rfl) (by kernel_rfl) ?_
        repeat (any_goals (first | go_big_quiet_step (fail) | quiet_step (fail)))
        refine wpQuiet_nil ?_
        intro w4 hw4
        have hb:=below_rg hw4
        have HO2:=hid (own_below HO.out hb)
        have HG2:=hid (gtrans HG.out (grown_none hb (some g)))
        have HRS3:Hid (∀ i (h:i < row.length) (h':i < ds.length),k + (k2 + 1) - 1<=i->row[i]=ds[i]):=hid (fun i h h' hi=>HRS2.out i h h' (by omega))
        clear hb hw4 HO HG c0 c1 b0 b1 rc0 rc1 rb0 rb1 qn
        go_wp2_with fail
        go_roundw
        case rel=>exact ⟨kk,k2 + 1,row,by omega,by omega,by omega,by omega,rfl,by go_num,HRL,HRT2,HRS3,HO2,HG2⟩
        case measure=>simp [intOf] <;> omega
       | false=>
        rw [hz] at qn
        simp only [Bool.not_false] at qn
        have hne:¬ (x1,y1)=(x0,y0):=fun e=>by
         rw [Prod.mk.injEq] at e; simp [e.1,e.2] at hz
        have HRT2:Hid ((row.set kk (x1,y1)).take (kk + 1)=compS (ds.take (k + (k2 + 1)))):=hid (by
         have hkl:kk < row.length:=by rw [HRL.out]; omega
         rw [List.take_succ_eq_append_getElem (by rw [List.length_set]; exact hkl),List.take_set_of_le (Nat.le_refl _),HRT.out,<-Nat.add_assoc,HCT.out,if_neg hne]
         simp)
        clear hz hne HRT HCT
        go_wp2_with fail
        refine wp_region_quiet_below (by kernel_rfl) (by kernel_rfl) ?_
        repeat (any_goals (first | go_big_quiet_step (fail) | quiet_step (fail)))
        refine wpQuiet_nil ?_
        intro w4 hw4
        have hb:=below_rg hw4
        have HO2:=hid (own_below HO.out hb)
        have HG2:=hid (gtrans HG.out (grown_none hb (some g)))
        have hkn2:(kk:Int) < (n:Int):=by omega
        obtain ⟨s1,s2⟩:=HO2.out.stored (kk * 2) (.int .u64 x1)
        obtain ⟨s3,s4⟩:=s1.stored (kk * 2 + 1) (.int .u64 y1)
        rw [dcells_set] at s3
        obtain ⟨w5,hw5⟩:∃ w5,w5=(w4.setCell ⟨g,kk * 2,none⟩ (.int .u64 x1)).setCell ⟨g,kk * 2 + 1,none⟩ (.int .u64 y1):=⟨_,rfl⟩
        have HO3:Hid (w5.ownsRow base 41 2 (.slice (some ⟨g,0,none⟩) n c) n (dcells (row.set kk (x1,y1)))):=hid (by rw [hw5]; exact s3)
        have HG3:Hid (w.grownBy w5 (some g)):=hid (by rw [hw5]; exact gtrans HG2.out (gtrans s2 s4))
        have HW5:=hid hw5
        have c0':=(hb.cell (p:=⟨g,k * 2 + k2 * 2,none⟩) (by have:=(HO.out.lt g rfl).2; exact this)).trans c0
        have c1':=(hb.cell (p:=⟨g,k * 2 + k2 * 2 + 1,none⟩) (by have:=(HO.out.lt g rfl).2; exact this)).trans c1
        obtain ⟨u0,z0⟩:∃ u0,w4.cell? ⟨g,kk * 2,none⟩=some u0:=⟨_,(HO2.out.cellAt (kk * 2) (by omega)).trans (dig_at (show kk < row.length by rw [HRL.out]; omega)).1⟩
        obtain ⟨u1,z1⟩:∃ u1,w4.cell? ⟨g,kk * 2 + 1,none⟩=some u1:=⟨_,(HO2.out.cellAt (kk * 2 + 1) (by omega)).trans (dig_at (show kk < row.length by rw [HRL.out]; omega)).2⟩
        have f0:=HO2.out.frozenAt (kk * 2)
        have f1:=HO2.out.frozenAt (kk * 2 + 1)
        have HRL3:Hid ((row.set kk (x1,y1)).length=n):=hid (by rw [List.length_set]; exact HRL.out)
        have HRS3:Hid (∀ i (h:i < (row.set kk (x1,y1)).length) (h':i < ds.length),k + (k2 + 1) - 1<=i->(row.set kk (x1,y1))[i]=ds[i]):=hid (fun i h h' hi=>by
         rw [List.getElem_set,if_neg (by omega)]
         exact HRS2.out i (by simpa using h) h' (by omega))
        clear hb hw4 hw5 s1 s2 s3 s4 HO HG c0 c1 b0 b1 rc0 rc1 rb0 rb1 qn HO2 HG2 HRL HRS2
        generalize row.set kk (x1,y1)=row2 at HO3 HRT2 HRL3 HRS3
        go_wp2_with fail
        rw [<-HW5.out]
        go_roundw
        case rel=>exact ⟨kk + 1,k2 + 1,row2,by omega,by omega,by omega,by omega,by go_num,by go_num,HRL3,HRT2,HRS3,HO3,HG3⟩
        case measure=>simp [intOf] <;> omega
      ·have hli:¬ (k2:Int) < (m:Int):=by omega
       obtain rfl:k2=m:=by omega
       have hkn2:kk < n:=by omega
       have hknI:(kk:Int) < (n:Int):=by omega
       have hkle:(kk:Int)<=(n:Int):=by omega
       have HRT2:Hid (row.take kk=R/\kk=R.length):=hid (by
        have h1:row.take kk=R:=by rw [HRT.out,HR.out,List.take_of_length_le (by have:=HN.out; omega)]
        exact ⟨h1,by rw [<-h1,List.length_take,HRL.out]; omega⟩)
       have hsl2:∀ W,(Instr.slice 24 (.slice (some ⟨g,0,none⟩) n c) (some (.int .i64 (kk:Int))) none none).run Tryz.prog W = .ok (.slice (some ⟨g,kk * 2,none⟩) (n - kk) (c - kk)) W:=fun W=>by
        rw [run_slice_l (P:=Tryz.prog) W 24 (some ⟨g,0,none⟩) n c (by kernel_rfl) .i64 (kk:Int) (by omega) (by omega),size_dig]
        have:c ≠ kk:=by omega
        simp [sliced,Result.andThen,this,Go.WideShapes.add_plain]
       have hsl3:∀ W,(Instr.slice 24 (.slice (some ⟨g,0,none⟩) n c) none (some (.int .i64 (kk:Int))) none).run Tryz.prog W = .ok (.slice (some ⟨g,0,none⟩) kk c) W:=fun W=>by
        rw [run_slice_h (P:=Tryz.prog) W 24 (some ⟨g,0,none⟩) n c (by kernel_rfl) .i64 (kk:Int) (by omega) (by omega),size_dig]
        have hz:c ≠ 0:=by omega
        simp [sliced,Result.andThen,hz,Go.WideShapes.add_plain]
       obtain ⟨vs,hcl⟩:=run_clear_dig wr g (kk * 2) (n - kk) (c - kk) (by omega) (fun j hj=>by
        rw [HO.out.cellAt (kk * 2 + j) (by omega)]
        have:kk * 2 + j < (dcells row).length:=by rw [dcells_length,HRL.out]; omega
        rw [List.getElem?_eq_getElem this]; rfl) (fun j hj=>HO.out.frozenAt _)
       obtain ⟨xs',t1,t2,t3⟩:=own_setCells vs (kk * 2) wr (dcells row) HO.out
       have HFIN:Hid ((wr.setCells g (kk * 2) vs).ownsRow base 41 2 (.slice (some ⟨g,0,none⟩) R.length c) R.length (dcells R)/\w.grownBy (wr.setCells g (kk * 2) vs) (some g)):=hid (by
        refine ⟨?_,gtrans HG.out t3⟩
        have h1:=own_shrink t1 (Nat.le_of_lt hkn2)
        rw [t2 (kk * 2) (Nat.le_refl _),dcells_take,HRT2.out.1] at h1
        rw [<-HRT2.out.2]
        exact h1)
       have HKR:=hid HRT2.out.2
       obtain ⟨w5,hw5⟩:∃ w5,w5=wr.setCells g (kk * 2) vs:=⟨_,rfl⟩
       rw [<-hw5] at hcl HFIN
       clear t1 t2 t3 HO HG HRT HRS HRL HRT2 hw5
       go_wp2_with fail
       go_ret
       refine ⟨?_,HFIN.out.1,HFIN.out.2⟩
       rw [<-HKR.out]; rfl
   ·have hki:¬ (k:Int) < (n:Int):=by omega
    have hR2:R=ds:=by
     have h1:=HI.out
     rw [List.take_of_length_le (by have:=HN.out; omega)] at h1
     rw [HR.out,h1]
    have HX:=hid hR2
    clear HI hR2
    go_wp2_with fail
    go_ret
    refine ⟨?_,?_,HG.out⟩
    ·rw [HX.out,<-HN.out]; rfl
    ·rw [HX.out,<-HN.out]; exact HO.out
end Go.Proofs.YtfdahmicigpnoaaGreat
