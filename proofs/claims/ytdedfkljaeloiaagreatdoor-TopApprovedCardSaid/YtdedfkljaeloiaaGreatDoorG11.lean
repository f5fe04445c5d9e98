/- Joined texts: ApJo, ApRq, ApEx, ApEy. -/
import Derived.Test.YtdedfkljaeloiaaGreatDoorG10
import Derived.Lib.JoinLaws
import Derived.Lib.MakeNoZero
import Derived.Laws.Externs
import Derived.Laws.IdiomCopy
import Derived.RegionTactic
/- strings.Join with a space. -/
set_option maxRecDepth 100000
set_option maxHeartbeats 16000000
open Go.Lib (hid)
namespace Go.Proofs.YtdedfkljaeloiaaGreatDoor
open Go.RowKit Go.Shelf
set_option linter.unusedVariables false
theorem setCell_alloc_old {W:World} {b:Nat} (h:b < W.heap.size) (off:Nat) (v:Value) (o:Obj):(W.alloc o).setCell ⟨b,off,none⟩ v=(W.setCell ⟨b,off,none⟩ v).alloc o:=by
 simp only [World.alloc,World.setCell]
 congr 1
 apply Array.ext
 ·simp
 ·intro i h1 h2
  simp only [Array.getElem_modify,Array.getElem_push,Array.size_modify]
  by_cases hi:i < W.heap.size
  ·simp [hi]
  ·have:b ≠ i:=by omega
   simp [hi,this]
theorem size_strs (W:World):(sizeOf (Tryz.prog.elem 44)).run Tryz.prog W = .ok 1 W:=by
 rw [show Tryz.prog.elem 44 = 9 from by kernel_rfl]
 kernel_rfl
theorem sizeByte:(Tryz.prog.info? 5).map (·.size)=some 1:=by kernel_rfl
theorem bgrow_k (B b n:Nat) (w:World) (hB:B<=b) (hbk:w.heap[b]? = some (.cells #[.pointer (some ⟨b,0,none⟩),.slice none 0 0] 143 (0,0))) (hBw:B<=w.heap.size) (hn:n<=281474976710656) :
  Calls Tryz.prog 104 #[.pointer (some ⟨b,0,none⟩),.int .i64 n] w fun e w'=>e = .returned (.tuple #[])/\(Lib.BuilderAt 143 5 B b (.pointer (some ⟨b,0,none⟩)) [] w'/\Below B w w'):=by
 obtain ⟨cs,hrun,hle,hmax⟩:=Lib.run_makeNoZero (P:=Tryz.prog) w.drew #[3] 137 5 Tryz.underlying137 n hn
 have hw:IntKind.i64.wrap (IntKind.i64.wrap 0 + (n:Int))=n:=by
  rw [IntKind.wrap_i64,IntKind.wrap_i64]
  omega
 have hcall:(callFunc 150 #[.int .i64 (IntKind.i64.wrap (IntKind.i64.wrap 0 + (n:Int)))]).run Tryz.prog w.drew = .ok (.value (.slice (some ⟨w.drew.heap.size,0,none⟩) n cs.size)) (w.drew.drew.drew.alloc (.cells cs 5)):=by
  rw [hw,run_callFunc_extern Tryz.func150 (by kernel_rfl) (by kernel_rfl) (by kernel_rfl) (e:=Extern.BytealgMakeNoZero.makeNoZero #[3] #[137]) (by kernel_rfl),hrun]
  rfl
 have hlt:b < w.heap.size:=by
  rcases Nat.lt_or_ge b w.heap.size with h' | h'
  ·exact h'
  ·simp [Array.getElem?_eq_none h'] at hbk
 have c1:w.drew.cell? ⟨b,1,none⟩=some (.slice none 0 0):=by
  have:w.drew.heap[b]? = _:=hbk
  rw [Lib.cell_of_heap this]; rfl
 have c2:(w.alloc (.cells cs 5)).cell? ⟨b,1,none⟩=some (.slice none 0 0):=by
  have:(w.alloc (.cells cs 5)).heap[b]? = _:=(Lib.alloc_old w _ b hlt).trans hbk
  rw [Lib.cell_of_heap this]; rfl
 have f2:(w.alloc (.cells cs 5)).frozen? ⟨b,1,none⟩=false:=Lib.frozen_of_heap ((Lib.alloc_old w _ b hlt).trans hbk) 1
 have hcopy:∀ W:World,(Builtin.copy_ #[137,137] 3 #[.slice (some ⟨w.heap.size,0,none⟩) 0 cs.size,.slice none 0 0]).run Tryz.prog W = .ok (goInt 0) W:=
  fun W=>run_copy_none W 137 137 3 5 _ _ 0 cs.size 0 0 Tryz.underlying137 sizeByte rfl
 have hmx:Tryz.prog.follows .mixedOrders=true:=by kernel_rfl
 clear hw
 have hfin:=Lib.grown_fresh (T:=143) (e:=5) (cs:=cs) hB hbk hBw (hmax (by unfold maxLen; omega)) (by decide)
 go_enter Tryz.func104,Tryz.ntmps104
 go_wp2
 go_region
 all_goals (go_wp2; go_end0; exact ⟨rfl,by rw [<-setCell_alloc_old hlt]; exact hfin⟩)
theorem bGrow_k (B b n:Nat) (w:World) (hB:B<=b) (hbk:w.heap[b]? = some (.cells #[.pointer none,.slice none 0 0] 143 (0,0))) (hBw:B<=w.heap.size) (hn:n<=281474976710656) :
  Calls Tryz.prog 75 #[.pointer (some ⟨b,0,none⟩),.int .i64 n] w fun e w'=>e = .returned (.tuple #[])/\(Lib.BuilderAt 143 5 B b (.pointer (some ⟨b,0,none⟩)) [] w'/\Below B w w'):=by
 have hbk1:(w.setCell ⟨b,0,none⟩ (.pointer (some ⟨b,0,none⟩))).heap[b]? = some (.cells #[.pointer (some ⟨b,0,none⟩),.slice none 0 0] 143 (0,0)):=by
  simp [World.setCell,Array.getElem?_modify,hbk]
 have hb1:Below B w (w.setCell ⟨b,0,none⟩ (.pointer (some ⟨b,0,none⟩))):=(Below.refl B w).setCell (p:=⟨b,0,none⟩) hB _
 have hU:Lib.BuilderAt 143 5 B b (.pointer (some ⟨b,0,none⟩)) [] (w.setCell ⟨b,0,none⟩ (.pointer (some ⟨b,0,none⟩))):=⟨hB,.slice none 0 0,hbk1,World.ownsRow_nil _ _ _ _,by simp [Value.ownBlock]⟩
 have c1':(w.setCell ⟨b,0,none⟩ (.pointer (some ⟨b,0,none⟩))).drew.cell? ⟨b,1,none⟩=some (.slice none 0 0):=by
  have:(w.setCell ⟨b,0,none⟩ (.pointer (some ⟨b,0,none⟩))).drew.heap[b]? = _:=hbk1
  rw [Lib.cell_of_heap this]; rfl
 have hmx:Tryz.prog.follows .mixedOrders=true:=by kernel_rfl
 have hn0:(0:Int)<=(n:Int):=by omega
 go_enter Tryz.func75,Tryz.ntmps75
 go_wp2_with (go_at_call 103; refine (copyCheck_fresh b w (by rw [Lib.cell_of_heap hbk]; rfl) (by simp [World.shape?,hbk]) (Lib.frozen_of_heap hbk 0)).mono ?_; rintro e w' ⟨rfl,rfl⟩)
 go_region
 all_goals go_wp2_with (go_at_call 104; refine (bgrow_k B b n (w.setCell ⟨b,0,none⟩ (.pointer (some ⟨b,0,none⟩))).drew hB hbk1 (by simpa [World.setCell,World.drew,-World.drew_eq] using hBw) hn).mono ?_; rintro e w' ⟨rfl,h1,h2⟩)
 all_goals first
  | (go_end0; exact ⟨rfl,h1,hb1.drew.trans h2⟩)
  | (go_end0; exact ⟨rfl,hU.drew,hb1.drew⟩)
theorem joinS_snoc:∀ (l:List Pa) (x:Pa),l ≠ []->joinS (l ++ [x])=joinS l ++ 32 :: x
 | [],x,h=>absurd rfl h
 | [a],x,_=>rfl
 | a :: b :: l,x,_=>by
  rw [List.cons_append,List.cons_append,joinS,<-List.cons_append,joinS_snoc (b :: l) x (by simp),joinS]
  simp
theorem joinS_ne:∀ {l:List Pa},2<=l.length->joinS l ≠ []
 | [],h=>by simp at h
 | [x],h=>by simp at h
 | x :: y :: l,_=>by simp [joinS]
def sumL:List Pa->Nat
 | []=>0
 | x :: l=>x.length + sumL l
theorem joinS_len:∀ l:List Pa,(joinS l).length<=sumL l + l.length
 | []=>by simp [joinS]
 | [x]=>by simp [joinS,sumL]
 | x :: y :: l=>by
  have:=joinS_len (y :: l)
  rw [joinS,sumL]
  simp only [List.length_append,List.length_cons] at this ⊢
  omega
theorem sumL_snoc:∀ (l:List Pa) (x:Pa),sumL (l ++ [x])=sumL l + x.length
 | [],x=>by simp [sumL]
 | a :: l,x=>by rw [List.cons_append,sumL,sumL_snoc l x,sumL]; omega
theorem sumL_le (N:Nat):∀ (l:List Pa),(∀ x ∈ l,x.length<=N)->sumL l<=l.length * N
 | [],_=>by simp [sumL]
 | a :: l,h=>by
  have h1:=sumL_le N l (fun x hx=>h x (List.mem_cons_of_mem _ hx))
  have h2:=h a (by simp)
  rw [sumL,List.length_cons,Nat.succ_mul]; omega
theorem bws {B b:Nat} {l s:Pa} {W:World} (h:Bld B b l W) (hl:l.length + s.length<=140737488355328) (hB:B<=W.heap.size) :
  Calls Tryz.prog 76 #[.pointer (some ⟨b,0,none⟩),.string ⟨s.toArray⟩] W fun e W'=>e = .returned (.tuple #[.int .i64 (s.length:Int),.nilIface])/\Bld B b (l ++ s) W'/\Below B W W':=by
 refine (writeString_k B b (Lib.byteCells l) ⟨s.toArray⟩ W h (by rw [Lib.byteCells_length,ba_len]; exact hl) hB).mono ?_
 rintro e W' ⟨rfl,h1,h2,_⟩
 refine ⟨by rw [ba_len],.inr ?_,h2⟩
 rw [show Lib.strCells ⟨s.toArray⟩=Lib.byteCells s from rfl,<-Lib.byteCells_append] at h1
 exact h1
theorem join_any (a:Option Addr) (g:List Pa) (c:Nat) (w:World) (hr:SrW w.heap.size w (a,g.length,c) g) (hn:g.length<=1000) (hs:∀ x ∈ g,x.length<=100000) :
  Calls Tryz.prog 42 #[.slice a g.length c,.string ⟨#[32]⟩] w fun e w'=>e = .returned (.string ⟨(joinS g).toArray⟩)/\Below w.heap.size w w':=by
 rcases Nat.lt_or_ge g.length 2 with h2 | h2
 ·match g,hr,hn,hs,h2 with
  | [],hr,_,_,_=>
   go_enter Tryz.func42,Tryz.ntmps42
   go_wp2_with fail
   go_ret
   exact ⟨rfl,Below.refl _ _⟩
  | [x],hr,_,_,_=>
   obtain ⟨b,off,hab,hb,q0⟩:=sr_cell hr (i:=0) (by simp)
   simp only [List.getElem_cons_zero,Nat.add_zero] at q0 hab
   subst hab
   simp only [List.length_cons,List.length_nil,Nat.zero_add]
   go_enter Tryz.func42,Tryz.ntmps42
   go_wp2_with fail
   go_ret
   exact ⟨rfl,Below.refl _ _⟩
  | x :: y :: r,_,_,_,h2=>simp at h2; omega
 ·obtain ⟨b,off,hab,hb,q0⟩:=sr_cell hr (i:=0) (by omega)
  have hcap:=hr.cap
  simp only at hab hcap
  subst hab
  rw [Nat.add_zero] at q0
  have HR:=hid hr
  have HS:=hid hs
  have HSL:Hid (∀ k,k<=g.length->sumL (g.take k)<=100000 * 1000):=hid (fun k hk=>by
   have:=sumL_le 100000 (g.take k) (fun x hx=>hs x (List.mem_of_mem_take hx))
   simp at this
   have h3:min k g.length * 100000<=1000 * 100000:=Nat.mul_le_mul_right _ (by omega)
   omega)
  obtain ⟨n,hnn⟩:∃ n,n=g.length:=⟨_,rfl⟩
  have HN:=hid hnn
  rw [<-hnn] at hn h2 hcap ⊢
  have hlt:1 < 9223372036854775807 / (n - 1):=by
   have:2<=9223372036854775807 / (n - 1):=by
    rw [Nat.le_div_iff_mul_le (by omega)]
    omega
   omega
  have hdv:¬ (9223372036854775807 / ((n:Int) - 1)<=1):=by
   have e:(9223372036854775807:Int) / ((n - 1:Nat):Int)=((9223372036854775807 / (n - 1):Nat):Int):=IntWalk.up_div (x:=9223372036854775807) rfl rfl
   rw [show ((n:Int) - 1)=((n - 1:Nat):Int) by omega,e]
   generalize 9223372036854775807 / (n - 1)=q at hlt
   omega
  have hne0:((n:Int) == 0)=false:=beq_eq_false_iff_ne.2 (by omega)
  have hne1:((n:Int) == 1)=false:=beq_eq_false_iff_ne.2 (by omega)
  have hsz:(⟨#[32]⟩:ByteArray).size=1:=rfl
  clear hr hs hnn hlt
  go_enter Tryz.func42,Tryz.ntmps42
  go_wp2_with fail
  go_loopw [5,41] (fun s i wr=>∃ k S:Nat,k<=n/\i = .int .i64 (k:Int)/\s = .int .i64 (S:Int)/\S<=200000000/\Hid (S=n - 1 + sumL (g.take k))/\w=wr) (fun _ i _=>n - (intOf i).toNat)
  case atStart=>exact ⟨0,n - 1,by omega,rfl,by simp; omega,by omega,hid (by simp [sumL]),rfl⟩
  case round=>
   obtain ⟨k,S,hk,rfl,rfl,hS,HSE,rfl⟩:=hrel
   by_cases hkn:k < n
   ·have hki:(k:Int) < (n:Int):=by omega
    have hkl:k < g.length:=by rw [<-HN.out]; exact hkn
    obtain ⟨b1,o1,hab,hb1,q1⟩:=sr_cell HR.out hkl
    simp only at hab
    cases hab
    have hxb:=HS.out _ (List.getElem_mem hkl)
    have HSX:Hid (S + g[k].length=n - 1 + sumL (g.take (k + 1))):=hid (by rw [List.take_succ_eq_append_getElem hkl,sumL_snoc,HSE.out]; omega)
    have hsb:=HSL.out (k + 1) (by omega)
    have hsx:=HSX.out
    generalize g[k]=x at q1 HSX hxb hsx
    have hxl:=ba_len x
    generalize x.length=xl at HSX hxl hxb hsx
    have hS2:S + xl<=200000000:=by omega
    clear hsb hsx HSE
    go_wp2_with fail
    exact ⟨⟨k + 1,S + xl,by omega,by go_num,by go_num,hS2,HSX,trivial⟩,by simp [intOf]; omega⟩
   ·have hke:k=n:=by omega
    have hki:¬ (k:Int) < (n:Int):=by omega
    clear HSE hne0 hne1 hdv
    subst hke
    go_wp2_with fail
    have HG:=hid (bGrow_k w.heap.size w.heap.size S (w.alloc (.cells #[.pointer none,.slice none 0 0] 143)) (Nat.le_refl _) (World.alloc_heap_new w _) (by simp) (by omega))
    (with_reducible refine HG.out.mono ?_)
    rintro e w1 ⟨rfl,hbl,hb1⟩
    have HB1:Hid (Below w.heap.size w w1):=hid (((Below.refl _ w).alloc (Nat.le_refl _) _).trans hb1)
    have HBL:Hid (Bld w.heap.size w.heap.size [] w1):=hid (.inr (Lib.BuilderAtF.of hbl))
    have q0:=(HB1.out.cell (p:=⟨b,off,none⟩) hb).trans q0
    have hkl:0 < g.length:=by rw [<-HN.out]; omega
    have hx0:=HS.out _ (List.getElem_mem hkl)
    have HT1:Hid (joinS (g.take 1)=g[0]):=hid (by rw [List.take_one,List.head?_eq_getElem?,List.getElem?_eq_getElem hkl]; rfl)
    have HW:=hid (fun (x:Pa) (hx:x.length<=100000)=>bws (s:=x) HBL.out (by simp; omega) HB1.out.size)
    have HWX:=hid (HW.out g[0] hx0)
    have hsl1:(Instr.slice 44 (.slice (some ⟨b,off,none⟩) k c) (some (.int .i64 1)) none none).run Tryz.prog w1 = .ok (.slice (some ⟨b,off + 1,none⟩) (k - 1) (c - 1)) w1:=by
     rw [run_slice_l (P:=Tryz.prog) w1 44 (some ⟨b,off,none⟩) k c (by kernel_rfl) .i64 1 (by omega) (by omega),size_strs]
     have hc1:¬ c=1:=by omega
     simp [sliced,Result.andThen,hc1,Addr.add]
    generalize g[0]=x0 at q0 HT1 HWX
    clear hbl hb1 HG HBL HW
    go_wp2_with fail
    (with_reducible refine HWX.out.mono ?_)
    rintro e w2 ⟨rfl,hbl,hb2⟩
    have HB2:=hid (HB1.out.trans hb2)
    rw [List.nil_append,<-HT1.out] at hbl
    have HBL:=hid hbl
    clear hbl hb2 hb HWX hsl1 HB1 q0 HT1
    go_wp2_with fail
    go_loopw [65] (fun i wr=>∃ j:Nat,i = .int .i64 (j:Int)/\j + 1<=k/\Hid (Bld w.heap.size w.heap.size (joinS (g.take (j + 1))) wr)/\Hid (Below w.heap.size w wr)) (fun i _=>k - (intOf i).toNat)
    case atStart=>exact ⟨0,rfl,by omega,HBL,HB2⟩
    case round=>
     obtain ⟨j,rfl,hj,HBJ,HBW⟩:=hrel
     by_cases hjk:j + 1 < k
     ·have hji:(j:Int) < ((k - 1:Nat):Int):=by omega
      have hji2:(j:Int) < (k:Int) - 1:=by omega
      have hjl:j + 1 < g.length:=by rw [<-HN.out]; exact hjk
      obtain ⟨b1,o1,hab,hb1,q1⟩:=sr_cell (HR.out.below HBW.out) hjl
      simp only at hab
      cases hab
      rw [show off + (j + 1)=off + 1 + j by omega] at q1
      have hxb:=HS.out _ (List.getElem_mem hjl)
      have HT2:Hid (joinS (g.take (j + 1 + 1))=(joinS (g.take (j + 1)) ++ [32]) ++ g[j + 1]):=hid (by
       rw [List.take_succ_eq_append_getElem hjl,joinS_snoc _ _ (List.ne_nil_of_length_pos (by rw [List.length_take]; omega)),List.append_assoc]; rfl)
      have hjl2:(joinS (g.take (j + 1))).length<=300000000:=by
       have h1:=joinS_len (g.take (j + 1))
       have h3:=HSL.out (j + 1) (by omega)
       simp at h1
       omega
      generalize joinS (g.take (j + 1))=L at HBJ HT2 hjl2
      generalize g[j + 1]=x at q1 HT2 hxb
      have HW1:=hid (bws (s:=[32]) HBJ.out (by simp; omega) HBW.out.size)
      simp only [List.length_cons,List.length_nil] at HW1
      clear HBJ
      go_wp2_with fail
      (with_reducible refine HW1.out.mono ?_)
      rintro e w3 ⟨rfl,hbl,hb3⟩
      have HB3:=hid (HBW.out.trans hb3)
      have HW2:=hid (bws (s:=x) hbl (by rw [List.length_append]; simp only [List.length_cons,List.length_nil]; omega) HB3.out.size)
      clear hbl hb3 HW1 HBW q1
      go_wp2_with fail
      (with_reducible refine HW2.out.mono ?_)
      rintro e w4 ⟨rfl,hbl,hb4⟩
      have HB4:=hid (HB3.out.trans hb4)
      rw [<-HT2.out] at hbl
      have HBL:=hid hbl
      clear hbl hb4 HW2 HB3 HT2
      go_wp2_with fail
      exact ⟨⟨j + 1,by go_num,by omega,HBL,HB4⟩,by simp [intOf]; omega⟩
     ·have hji:¬ (j:Int) < ((k - 1:Nat):Int):=by omega
      have hji2:¬ (j:Int) < (k:Int) - 1:=by omega
      have hjk2:j + 1=g.length:=by have:=HN.out; omega
      rw [hjk2,List.take_length] at HBJ
      have HBS:=hid (bldString_k w.heap.size w.heap.size (joinS g) wr HBJ.out (joinS_ne (by rw [<-HN.out]; omega)))
      clear HBJ hjk2
      go_wp2_with fail
      (with_reducible refine HBS.out.mono ?_)
      rintro e w3 ⟨rfl,hbl,hb3,_⟩
      have HB3:=hid (HBW.out.trans hb3)
      clear hbl hb3 HBS HBW
      go_wp2_with fail
      go_ret
      exact ⟨rfl,HB3.out⟩
def reqStep (acc:List (List Pa)) (g:List Pa):List (List Pa):=if joinS g ∈ acc.map joinS then acc else acc ++ [g]
def requiredS (l m:List Fl):List (List Pa):=(((dfL l m).map (·.path)).flatMap (groupsS l)).foldl reqStep []
def inJ (acc:List (List Pa)) (s:Pa):Option Value:=if s ∈ acc.map joinS then some (.bool true) else none
theorem inJ_snoc (acc:List (List Pa)) (g:List Pa) (s:Pa):(if s=joinS g then some (Value.bool true) else inJ acc s)=inJ (acc ++ [g]) s:=by
 unfold inJ
 rw [List.map_append]
 by_cases h1:s=joinS g
 ·rw [if_pos h1,if_pos (by rw [h1]; simp)]
 ·rw [if_neg h1]
  by_cases h2:s ∈ acc.map joinS
  ·rw [if_pos h2,if_pos (List.mem_append_left _ h2)]
  ·rw [if_neg h2,if_neg (by rw [List.mem_append]; rintro (h | h); exact h2 h; exact h1 (by simpa using h))]
structure RqI (B mb b nb:Nat) (M:Pa->Option (List Ru)) (w:World) (acc:List (List Pa)) (v:Value) (W:World):Prop where
 ex:∃ H,W.ownsRow (mb + 1) TSl 1 v acc.length (gcs slCs H)/\Al (SrW W.heap.size W) H acc
 mm:MapS mb acc.length (inJ acc) W
 rm:RuMB B b nb M W
 be:Below w.heap.size w W
 lm:w.heap.size<=mb
 lb:B<=mb
 bm:b < mb
theorem Al.len' {α β:Type} {R:α->β->Prop} {xs:List α} {ys:List β} (h:Al R xs ys):ys.length=xs.length:=h.len.symm
section
variable {B mb b nb:Nat} {M:Pa->Option (List Ru)} {w W W':World} {acc:List (List Pa)} {v:Value}
theorem RqI.below (h:RqI B mb b nb M w acc v W) (hb:Below W.heap.size W W'):RqI B mb b nb M w acc v W':=by
 obtain ⟨H,h1,h2⟩:=h.ex
 exact ⟨⟨H,own_below h1 hb,h2.imp (fun a r hr=>(hr.below hb).mono hb.size)⟩,h.mm.below hb,h.rm.below hb,h.be.trans (hb.mono h.be.size),h.lm,h.lb,h.bm⟩
theorem RqI.add (h:RqI B mb b nb M w acc v W) (g:List Pa) (x:Hd) (hx:SrW W.heap.size W x g) (hn:(acc.length:Int)<=1000000) (hj:(joinS g).length<=1000000) :
  ∃ u v' W',(Instr.mapUpdate 63 (.map (some mb)) (.string ⟨(joinS g).toArray⟩) (.bool true)).run Tryz.prog W = .ok () u/\
   Hid ((Builtin.append_ #[27,27] 27 #[v,.slice (some ⟨u.heap.size,0,none⟩) 1 1]).run Tryz.prog (u.alloc (.cells #[hdV x] 44)) = .ok v' W')/\RqI B mb b nb M w (acc ++ [g]) v' W'/\(∀ a r,SrW W.heap.size W a r->SrW W'.heap.size W' a r)/\∀ a r,GrW B W a r->GrW B W' a r:=by
 obtain ⟨H,h1,h2⟩:=h.ex
 obtain ⟨u,k1,k2,k3,k4⟩:=h.mm.put Tryz.underlying63 hj (by omega) (.bool true)
 obtain ⟨es,clock,ho⟩:=h.mm.obj
 have hml:=h.mm.lt
 have hfm:∀ ts BB,Far ts BB W (some mb):=fun ts BB k e=>by cases e; exact .inr (fun t _ cs fz e=>by rw [ho] at e; cases e)
 have o1:u.ownsRow (mb + 1) TSl 1 v acc.length (gcs slCs H):=h1.kept k3 (by
  cases hv:v.ownBlock with
  | none=>exact .inl rfl
  | some k=>exact .inr (fun e=>by cases e; have:=(h1.lt mb hv).1; omega))
 have hlen:=h2.len
 obtain ⟨v',W',hrun,hown,hgr,_⟩:=append_sl (base:=mb + 1) hlen.symm o1 x hn (by omega)
 have gA:=gal u (.cells (slCs x).toArray TSl)
 have f1:=o1.alloc (.cells (slCs x).toArray TSl)
 have hlow:∀ k,v.ownBlock=some k->mb + 1<=k:=fun k hk=>(h1.lt k hk).1
 have hsz2:u.heap.size + 1<=W'.heap.size:=by have:=hgr.size; simpa using this
 have hsz1:(u.alloc (.cells (slCs x).toArray TSl)).heap.size=u.heap.size + 1:=by simp
 have hszm:u.heap.size=W.heap.size:=k4
 have key:∀ {a:Hd} {r:List Pa},SrW W.heap.size W a r->SrW W'.heap.size W' a r:=fun hr=>(((hr.grow k3 (hfm _ _) (Nat.le_refl _)).grow gA (Far.none _ _ _) (Nat.le_refl _)).grow hgr (Far.own f1 (by decide)) (by omega))
 refine ⟨u,v',W',k1,hrun,⟨⟨H ++ [x],by rw [List.length_append]; exact hown,?_⟩,?_,?_,?_,h.lm,h.lb,h.bm⟩,fun a r hr=>key hr,fun a r hr=>((hr.grow k3 (hfm _ _) (Nat.le_refl _)).grow gA (Far.none _ _ _) (Nat.le_refl _)).grow hgr (fun k e=>.inl (by have:=hlow k e; have:=h.lb; omega)) (Nat.le_refl _)⟩
 ·exact (h2.imp (fun a r hr=>key hr)).snoc (key hx)
 ·have m2:=((k2.eq (fun s=>inJ_snoc acc g s)).alloc (.cells (slCs x).toArray TSl)).kept hgr (fun e=>by have:=hlow mb e.symm; omega)
  rw [List.length_append]; exact m2
 ·have r1:=h.rm.grow k3 (by intro e; cases e; have:=h.bm; omega) (hfm _ _)
  have r2:=r1.grow gA (by simp) (Far.none _ _ _)
  exact r2.grow hgr (fun e=>by have:=hlow b e.symm; have:=h.bm; omega) (fun k e=>.inl (by have:=hlow k e; have:=h.lb; omega))
 ·exact ((h.be.grown k3 h.be.size (fun k e=>by cases e; exact h.lm)).alloc (by have:=h.be.size; omega) _).grown hgr (by have:=h.be.size; simp; omega) (fun k e=>by have:=hlow k e; have:=h.lm; omega)
theorem RqI.gr (h:RqI B mb b nb M w acc v W):∃ a c,v = .slice a acc.length c/\GrW W.heap.size W (a,acc.length,c) acc:=by
 obtain ⟨H,h1,h2⟩:=h.ex
 obtain ⟨a,c,hv,hc⟩:=ownsRow_sliceN h1
 subst hv
 have hl:=h2.len
 exact ⟨a,c,rfl,H,RoW.of_own (h:=(a,acc.length,c)) laySl hl.symm h1,h2⟩
end
theorem req_len (gs:List (List Pa)):∀ acc:List (List Pa),(gs.foldl reqStep acc).length<=acc.length + gs.length:=by
 induction gs with
 | nil=>intro acc; simp
 | cons g gs ih=>
  intro acc
  rw [List.foldl_cons]
  have:=ih (reqStep acc g)
  have h2:(reqStep acc g).length<=acc.length + 1:=by
   unfold reqStep
   split
   ·omega
   ·simp
  simp only [List.length_cons]; omega
theorem flat_len (l:List Fl):∀ ps:List Pa,(ps.flatMap (groupsS l)).length<=ps.length * 8
 | []=>by simp
 | p :: ps=>by
  have:=flat_len l ps
  have h:=groups_len (l:=l) (P:=p)
  rw [List.flatMap_cons,List.length_append,List.length_cons]; omega
theorem df_path:∀ (n:Nat) (l m:List Fl),∀ c ∈ dfS n l m,(∃ x ∈ l,x.path=c.path)\/∃ y ∈ m,y.path=c.path
 | 0,_,_,c,h=>by simp [dfS] at h
 | n + 1,[],[],c,h=>by simp [dfS] at h
 | n + 1,x :: l,[],c,h=>by
  rw [dfS,List.mem_cons] at h
  rcases h with rfl | h
  ·exact .inl ⟨x,by simp,rfl⟩
  ·exact (df_path n l [] c h).imp (fun ⟨y,h1,h2⟩=>⟨y,List.mem_cons_of_mem _ h1,h2⟩) id
 | n + 1,[],y :: m,c,h=>by
  rw [dfS,List.mem_cons] at h
  rcases h with rfl | h
  ·exact .inr ⟨y,by simp,rfl⟩
  ·exact (df_path n [] m c h).imp id (fun ⟨y,h1,h2⟩=>⟨y,List.mem_cons_of_mem _ h1,h2⟩)
 | n + 1,x :: l,y :: m,c,h=>by
  rw [dfS] at h
  split at h
  ·rw [List.mem_cons] at h
   rcases h with rfl | h
   ·exact .inl ⟨x,by simp,rfl⟩
   ·exact (df_path n l (y :: m) c h).imp (fun ⟨y,h1,h2⟩=>⟨y,List.mem_cons_of_mem _ h1,h2⟩) id
  ·split at h
   ·rw [List.mem_cons] at h
    rcases h with rfl | h
    ·exact .inr ⟨y,by simp,rfl⟩
    ·exact (df_path n (x :: l) m c h).imp id (fun ⟨y,h1,h2⟩=>⟨y,List.mem_cons_of_mem _ h1,h2⟩)
   ·have key:c ∈ dfS n l m->(∃ z ∈ x :: l,z.path=c.path)\/∃ z ∈ y :: m,z.path=c.path:=fun h=>(df_path n l m c h).imp (fun ⟨y,h1,h2⟩=>⟨y,List.mem_cons_of_mem _ h1,h2⟩) (fun ⟨y,h1,h2⟩=>⟨y,List.mem_cons_of_mem _ h1,h2⟩)
    split at h
    ·exact key h
    ·rw [List.mem_cons] at h
     rcases h with rfl | h
     ·exact .inl ⟨x,by simp,rfl⟩
     ·exact key h
def GotRq (w:World) (l m:List Fl) (e:Ending) (w':World):Prop:=Below w.heap.size w w'/\∃ a n c k,e = .returned (.tuple #[.slice a n c,.int .i64 k])/\
 (((checkF l=0/\checkF m=0)/\k=0/\n=(requiredS l m).length/\GrW w'.heap.size w' (a,n,c) (requiredS l m))\/(¬ (checkF l=0/\checkF m=0)/\k ≠ 0))
theorem required_any (a:Option Addr) (l:List Fl) (c:Nat) (a2:Option Addr) (m:List Fl) (c2:Nat) (w:World) (hl:Fls w.heap.size w a l) (hm:Fls w.heap.size w a2 m) (hs:SmF l) (hs2:SmF m) (hd:∀ x ∈ l,x.data.length<=1000) :
  Calls Tryz.prog 19 #[.slice a l.length c,.slice a2 m.length c2] w (GotRq w l m):=by
 have HC:=hid (tcheck_any a l c w hl hs.1 (fun x hx=>(hs.2 x hx).1) (fun x hx=>(hs.2 x hx).2))
 have HC2:=hid (fun W (hb:Below w.heap.size w W)=>tcheck_any a2 m c2 W ((hm.below hb (Nat.le_refl _)).mono hb.size) hs2.1 (fun x hx=>(hs2.2 x hx).1) (fun x hx=>(hs2.2 x hx).2))
 have HR:=hid (fun W (hb:Below w.heap.size w W)=>rulesOf_any a l c W ((hl.below hb (Nat.le_refl _)).mono hb.size) (by have:=hs.1; omega) (fun x hx=>(hs.2 x hx).1) (fun x hx=>by have:=(hs.2 x hx).2; omega))
 have HG:=hid (fun W (hb:Below w.heap.size w W)=>changed_any a l c a2 m c2 W ((hl.below hb (Nat.le_refl _)).mono hb.size) ((hm.below hb (Nat.le_refl _)).mono hb.size) (by have:=hs.1; omega) (by have:=hs2.1; omega))
 have HDL:Hid ((dfL l m).length<=400):=hid (by have:=df_len (l.length + m.length) l m; have:=hs.1; have:=hs2.1; unfold dfL; omega)
 have HPL:Hid (∀ x ∈ dfL l m,x.path.length<=100000):=hid (fun x hx=>by
  rcases df_path _ _ _ x hx with ⟨y,h1,h2⟩ | ⟨y,h1,h2⟩
  ·rw [<-h2]; exact (hs.2 y h1).1
  ·rw [<-h2]; exact (hs2.2 y h1).1)
 have HGS:Hid (∀ p,∀ g ∈ groupsS l p,(joinS g).length<=1000000/\g.length<=1000/\∀ x ∈ g,x.length<=100000):=hid (fun p g hg=>by
  have h1:=groups_sm hd hg
  have h2:=(groups_gd hg).2
  have h3:=joinS_len g
  have h4:=sumL_le 1000 g h1
  have h5:g.length * 1000<=20 * 1000:=Nat.mul_le_mul_right _ h2
  exact ⟨by omega,by omega,fun x hx=>by have:=h1 x hx; omega⟩)
 generalize hk1:checkF l=k1 at HC
 generalize hk2:checkF m=k2 at HC2
 have HOK:Hid (checkF l=0/\checkF m=0 ↔ k1=0/\k2=0):=hid (by rw [hk1,hk2])
 obtain ⟨T,hT⟩:∃ T,T=requiredS l m:=⟨_,rfl⟩
 obtain ⟨PS,hPS⟩:∃ PS,PS=(dfL l m).map (·.path):=⟨_,rfl⟩
 have HTE:Hid (T=(PS.flatMap (groupsS l)).foldl reqStep []):=hid (by rw [hT,hPS]; rfl)
 have HPN:Hid (PS.length<=400/\(∀ x ∈ PS,x.length<=100000)/\(dfL l m).length=PS.length):=hid (by
  rw [hPS]
  refine ⟨by simpa using HDL.out,fun x hx=>?_,by simp⟩
  obtain ⟨y,hy,rfl⟩:=List.mem_map.1 hx
  exact HPL.out y hy)
 rw [<-hPS] at HG
 unfold GotRq
 rw [<-hT]
 have HLN:Hid (l.length=l.length):=hid rfl
 clear hk1 hk2 hl hm hs hs2 hd hT hPS
 by_cases h1:k1=0
 ·subst h1
  go_enter Tryz.func19,Tryz.ntmps19
  go_wp2_with fail
  (with_reducible refine HC.out.mono ?_)
  rintro e u1 ⟨rfl,hb1⟩
  have HB1:=hid hb1
  have HC2u:=hid (HC2.out u1 hb1)
  clear hb1 HC HC2
  by_cases h2:k2=0
  ·subst h2
   have HK:Hid (checkF l=0/\checkF m=0):=hid (HOK.out.2 (by simp))
   clear HOK
   go_wp2_with fail
   (with_reducible refine HC2u.out.mono ?_)
   rintro e u2 ⟨rfl,hb2⟩
   have hb:=HB1.out.trans (hb2.mono HB1.out.size)
   have HB2:=hid hb
   have HRu:=hid (HR.out u2 hb)
   clear hb2 hb HC2u HR HB1
   have hmm:=@run_makeMap Tryz.prog
   go_wp2_with fail
   (with_reducible refine HRu.out.mono ?_)
   rintro e u3 ⟨b,rfl,hrm,hbl,hb3⟩
   have hb:=HB2.out.trans (hb3.mono HB2.out.size)
   obtain ⟨mb,hmb⟩:∃ mb,mb=u3.heap.size:=⟨_,rfl⟩
   obtain ⟨u4,hu4⟩:∃ u4,u4=u3.alloc (.map #[] 0):=⟨_,rfl⟩
   have hb34:Below u3.heap.size u3 u4:=by rw [hu4]; exact (Below.refl _ _).alloc (Nat.le_refl _) _
   have HI4:Hid (RqI mb mb b l.length (ruM l) w [] (.slice none 0 0) u4):=hid ⟨⟨[],World.ownsRow_nil _ _ _ _,.nil⟩,by rw [hu4,hmb]; exact (MapS.made u3).eq (fun s=>by simp [inJ]),by rw [hmb]; exact hrm.toB.below hb34,hb.trans (hb34.mono hb.size),by rw [hmb]; exact hb.size,Nat.le_refl _,by rw [hmb]; exact hrm.toB.lt⟩
   have HGu:=hid (HG.out u4 (hb.trans (hb34.mono hb.size)))
   have HU4:=hid hu4
   have HMB:=hid hmb
   clear hb3 hb hrm hbl hb34 HRu HB2 HG hu4 hmb
   go_wp2_with fail
   rw [<-HU4.out,<-HMB.out]
   (with_reducible refine HGu.out.mono ?_)
   rintro e u5 ⟨va,vc,rfl,hpo,hb5⟩
   rw [HPN.out.2.2] at hpo
   have hpw:SrW u5.heap.size u5 (va,PS.length,vc) PS:=RoW.of_own (h:=(va,PS.length,vc)) laySt rfl hpo
   have HI5:=hid (HI4.out.below hb5)
   have HPW:=hid hpw
   rw [HPN.out.2.2]
   clear hpo hb5 hpw HGu HI4
   obtain ⟨np,hnp⟩:∃ np,np=PS.length:=⟨_,rfl⟩
   have HNP:=hid hnp
   rw [<-hnp] at HPW ⊢
   have hnp4:np<=400:=by rw [hnp]; exact HPN.out.1
   clear hnp
   go_wp2_with fail
   clear hmm HU4 HMB
   go_loopw [33,10] (fun i v wr=>∃ (k:Nat) (acc:List (List Pa)),i = .int .i64 (k:Int)/\k<=np/\acc.length<=8 * k/\Hid (acc=((PS.take k).flatMap (groupsS l)).foldl reqStep [])/\Hid (RqI mb mb b l.length (ruM l) w acc v wr)/\Hid (SrW wr.heap.size wr (va,np,vc) PS)) (fun i _ _=>np - (intOf i).toNat)
   case atStart=>exact ⟨0,[],rfl,by omega,by simp,hid (by simp),HI5,HPW⟩
   case round=>
    clear HI5 HPW
    obtain ⟨k,acc,rfl,hk,hal,HA,HI,HPW⟩:=hrel
    obtain ⟨x0,hx0⟩:∃ x0,x0=wr:=⟨_,rfl⟩
    rw [<-hx0] at HI HPW ⊢
    clear hx0
    by_cases hlt:k < np
    ·have hki:(k:Int) < (np:Int):=by omega
     have hkl:k < PS.length:=by rw [<-HNP.out]; exact hlt
     obtain ⟨b0,o0,hab,hb0,q0⟩:=sr_cell HPW.out hkl
     simp only at hab
     subst hab
     have hpl:=HPN.out.2.1 _ (List.getElem_mem hkl)
     have HTK:Hid ((PS.take (k + 1)).flatMap (groupsS l)=(PS.take k).flatMap (groupsS l) ++ groupsS l PS[k]):=hid (by rw [List.take_succ_eq_append_getElem hkl,List.flatMap_append]; simp)
     have HGP:=hid (HGS.out PS[k])
     have hgl8:=groups_len (l:=l) (P:=PS[k])
     have HOW:=hid (ownersOf_any mb b l.length (ruM l) PS[k] x0 HI.out.rm (Nat.le_of_lt HI.out.mm.lt) (ruM_sh l) (by omega))
     obtain ⟨G,hG⟩:∃ G,G=groupsS l PS[k]:=⟨_,rfl⟩
     have HGE:Hid (ownG (ruM l) (dirsP PS[k])=G):=hid (by rw [hG]; rfl)
     unfold GotOw at HOW
     rw [HGE.out] at HOW
     rw [<-hG] at HTK HGP hgl8
     clear HGE hG
     generalize PS[k]=p at q0 hpl HOW
     go_wp2_with fail
     (with_reducible refine HOW.out.mono ?_)
     rintro e u6 ⟨ga,gc,rfl,hgw,hb6⟩
     have HI6:=hid (HI.out.below hb6)
     have HPW6:=hid ((HPW.out.below hb6).mono hb6.size)
     have HGW:=hid hgw
     obtain ⟨ng,hng⟩:∃ ng,ng=G.length:=⟨_,rfl⟩
     have HNG:=hid hng
     rw [<-hng] at HGW hgl8 ⊢
     clear hb6 hgw hng HOW HI HPW q0
     go_wp2_with fail
     go_loopw [41,10] (fun i v wr=>∃ (j:Nat) (ac2:List (List Pa)),i = .int .i64 (j:Int)/\j<=ng/\ac2.length<=acc.length + j/\Hid (ac2=(G.take j).foldl reqStep acc)/\Hid (RqI mb mb b l.length (ruM l) w ac2 v wr)/\Hid (SrW wr.heap.size wr (some ⟨b0,o0,none⟩,np,vc) PS)/\Hid (GrW mb wr (ga,ng,gc) G)) (fun i _ _=>ng - (intOf i).toNat)
     case atStart=>exact ⟨0,acc,rfl,by omega,by omega,hid rfl,HI6,HPW6,HGW⟩
     case round=>
      clear HI6 HPW6 HGW
      obtain ⟨j,ac2,rfl,hj,hal2,HA2,HI2,HPW2,HGW2⟩:=hrel
      by_cases hlt2:j < ng
      ·have hji:(j:Int) < (ng:Int):=by omega
       have hjl:j < G.length:=by rw [<-HNG.out]; exact hlt2
       obtain ⟨b1,o1,x,hab,hb1,q1,hx⟩:=gr_cell HGW2.out hjl
       simp only at hab
       subst hab
       obtain ⟨hg1,hg2,hg3⟩:=HGP.out _ (List.getElem_mem hjl)
       have hmz:=HI2.out.mm.lt
       have HX:=hid (hx.mono (Nat.le_of_lt hmz))
       have HT2:Hid ((G.take (j + 1)).foldl reqStep acc=reqStep ((G.take j).foldl reqStep acc) G[j]):=hid (by rw [List.take_succ_eq_append_getElem hjl,List.foldl_append]; rfl)
       generalize G[j]=g at hg1 hg2 hg3 HX HT2
       obtain ⟨sa,sn,sc⟩:=x
       have hsn:=HX.out.len
       simp only at hsn
       simp only [hdV] at q1
       subst hsn
       have HJ:=hid (join_any sa g sc wr HX.out hg2 hg3)
       clear hx
       go_wp2_with fail
       (with_reducible refine HJ.out.mono ?_)
       rintro e u7 ⟨rfl,hb7⟩
       have HI7:=hid (HI2.out.below hb7)
       have HPW7:=hid ((HPW2.out.below hb7).mono hb7.size)
       have HGW7:=hid (HGW2.out.grow (gr_below hb7) (Far.none _ _ _) (Nat.le_refl _))
       have HX7:=hid ((HX.out.below hb7).mono hb7.size)
       clear hb7 HJ HI2 HPW2 HGW2 HX q1
       have hlook:=HI7.out.mm.look Tryz.underlying63 (zeroBoolT u7) hg1
       by_cases hin:joinS g ∈ ac2.map joinS
       ·rw [show inJ ac2 (joinS g)=some (.bool true) from if_pos hin] at hlook
        simp only [Option.getD_some] at hlook
        have HA3:Hid (ac2=(G.take (j + 1)).foldl reqStep acc):=hid (by rw [HT2.out,<-HA2.out]; unfold reqStep; rw [if_pos hin])
        clear hin HT2 HX7
        go_wp2_with fail
        go_roundw
        case rel=>exact ⟨j + 1,ac2,by go_num,by omega,by omega,HA3,HI7,HPW7,HGW7⟩
        case measure=>simp [intOf] <;> omega
       ·rw [show inJ ac2 (joinS g)=none from if_neg hin] at hlook
        simp only [Option.getD_none] at hlook
        obtain ⟨u8,v',W',hput,hrun,hi',hkS,hkG⟩:=HI7.out.add g (sa,g.length,sc) HX7.out (by omega) hg1
        have HA3:Hid (ac2 ++ [g]=(G.take (j + 1)).foldl reqStep acc):=hid (by rw [HT2.out,<-HA2.out]; unfold reqStep; rw [if_neg hin])
        have HI8:=hid hi'
        have HPW8:=hid (hkS _ _ HPW7.out)
        have HGW8:=hid (hkG _ _ HGW7.out)
        have HRUN:=hid hrun.out
        simp only [hdV] at HRUN
        have hal3:(ac2 ++ [g]).length<=acc.length + (j + 1):=by simp; omega
        clear hin HT2 HX7 hi' hkS hkG hrun HI7 HPW7 HGW7
        go_wp2_with (at_builtin; refine Lib.wpList_append_run _ rfl _ _ _ _ rfl _ _ rfl rfl _ _ HRUN.out ?_)
        go_roundw
        case rel=>exact ⟨j + 1,ac2 ++ [g],by go_num,by omega,hal3,HA3,HI8,HPW8,HGW8⟩
        case measure=>simp [intOf] <;> omega
      ·have hji:¬ (j:Int) < (ng:Int):=by omega
       have HA3:Hid (ac2=((PS.take (k + 1)).flatMap (groupsS l)).foldl reqStep []):=hid (by
        rw [HTK.out,List.foldl_append,<-HA.out,HA2.out,List.take_of_length_le (by have:=HNG.out; omega)])
       clear HA2 HGW2
       go_wp2_with fail
       go_roundw
       case rel=>exact ⟨k + 1,ac2,by go_num,by omega,by omega,HA3,HI2,HPW2⟩
       case measure=>simp [intOf] <;> omega
    ·have hki:¬ (k:Int) < (np:Int):=by omega
     obtain ⟨ra,rc,hv,hgr⟩:=HI.out.gr
     have HTA:Hid (T=acc):=hid (by rw [HTE.out,HA.out,List.take_of_length_le (by have:=HNP.out; omega)])
     have HG9:=hid hgr
     have HB9:=hid HI.out.be
     subst hv
     clear hgr HI HPW HA
     go_wp2_with fail
     go_ret2
     exact ⟨HB9.out,ra,_,rc,0,rfl,.inl ⟨HK.out,rfl,by rw [HTA.out],by rw [HTA.out]; exact HG9.out⟩⟩
  ·have HK:Hid (¬ (checkF l=0/\checkF m=0)):=hid (fun h=>h2 (HOK.out.1 h).2)
   go_wp2_with fail
   (with_reducible refine HC2u.out.mono ?_)
   rintro e u2 ⟨rfl,hb2⟩
   have HB2:=hid (HB1.out.trans (hb2.mono HB1.out.size))
   clear hb2 HC2u
   go_wp2_with fail
   go_ret2
   exact ⟨HB2.out,none,0,0,k2,rfl,.inr ⟨HK.out,h2⟩⟩
 ·have HK:Hid (¬ (checkF l=0/\checkF m=0)):=hid (fun h=>h1 (HOK.out.1 h).1)
  go_enter Tryz.func19,Tryz.ntmps19
  go_wp2_with fail
  (with_reducible refine HC.out.mono ?_)
  rintro e u1 ⟨rfl,hb1⟩
  have HB1:=hid hb1
  clear hb1 HC
  go_wp2_with fail
  go_ret2
  exact ⟨HB1.out,none,0,0,k1,rfl,.inr ⟨HK.out,h1⟩⟩
theorem owns_cut (P:Pa):ownsB P=(decide (6<=P.length) && (P.drop (P.length - 6) == ownN) && (decide (P.length=6) || decide (P[P.length - 7]? = some 47))):=by
 rw [Bool.eq_iff_iff]
 simp only [ownsB,Lib.hasSuffix,Bool.or_eq_true,Bool.and_eq_true,decide_eq_true_eq,beq_iff_eq,List.isSuffixOf_iff_suffix]
 constructor
 ·rintro (rfl | ⟨t,rfl⟩)
  ·simp [ownN]
  ·have hl:(t ++ 47 :: ownN).length=t.length + 7:=by simp [ownN]
   rw [hl]
   refine ⟨⟨by omega,?_⟩,.inr ?_⟩
   ·rw [show t.length + 7 - 6=t.length + 1 by omega,List.drop_append]
    simp
   ·rw [show t.length + 7 - 7=t.length by omega]; simp
 ·rintro ⟨⟨h1,h2⟩,h3⟩
  rcases h3 with h3 | h3
  ·left
   rw [h3] at h2
   simpa using h2
  ·right
   have h7:=(List.getElem?_eq_some_iff.1 h3).1
   refine ⟨P.take (P.length - 7),?_⟩
   have e:P.drop (P.length - 7)=47 :: P.drop (P.length - 6):=by
    rw [List.drop_eq_getElem_cons h7,(List.getElem?_eq_some_iff.1 h3).2]
    have:7<=P.length:=by
     rcases Nat.lt_or_ge P.length 7 with h | h
     ·have h6:P.length=6:=by omega
      rw [h6] at h2 h3
      simp at h2
      rw [h2] at h3
      simp [ownN] at h3
     ·exact h
    rw [show P.length - 7 + 1=P.length - 6 by omega]
   rw [<-h2,<-e,List.take_append_drop]
theorem rulesOnly_any (a:Option Addr) (l:List Fl) (c:Nat) (w:World) (hl:Fls w.heap.size w a l) (hn:l.length<=1000) (hp:∀ x ∈ l,x.path.length<=100000) :
  Calls Tryz.prog 39 #[.slice a l.length c] w fun e w'=>∃ va vc,e = .returned (.slice va (l.filter fun f=>ownsB f.path).length vc)/\w'.ownsRow w.heap.size 55 2 (.slice va (l.filter fun f=>ownsB f.path).length vc) (l.filter fun f=>ownsB f.path).length (gcs flCs (l.filter fun f=>ownsB f.path))/\Below w.heap.size w w':=by
 have HL:=hid hl
 have HP:=hid hp
 obtain ⟨T,hT⟩:∃ T,T=l.filter fun f=>ownsB f.path:=⟨_,rfl⟩
 have HT:=hid hT
 rw [<-hT]
 obtain ⟨n,hnn⟩:∃ n,n=l.length:=⟨_,rfl⟩
 have HN:=hid hnn
 have hn2:n<=1000:=by rw [hnn]; exact hn
 rw [<-hnn]
 clear hl hp hn hnn hT
 go_enter Tryz.func39,Tryz.ntmps39
 go_wp2_with fail
 go_loopw [9,3] (fun i v wr=>∃ k:Nat,k<=n/\i = .int .i64 (k:Int)/\Hid (DfI flCs 2 55 w ((l.take k).filter fun f=>ownsB f.path) v wr)) (fun i _ _=>n - (intOf i).toNat)
 case atStart=>exact ⟨0,by omega,rfl,hid ⟨World.ownsRow_nil _ _ _ _,Below.refl _ _⟩⟩
 case round=>
  obtain ⟨k,hk,rfl,HI⟩:=hrel
  have hlk:((l.take k).filter fun f=>ownsB f.path).length<=1000:=Nat.le_trans (List.length_filter_le _ _) (by rw [List.length_take]; omega)
  obtain ⟨va,vc,hv,hvc⟩:=ownsRow_sliceN HI.out.ow
  obtain ⟨ol,hol⟩:∃ ol,ol=((l.take k).filter fun f=>ownsB f.path).length:=⟨_,rfl⟩
  rw [<-hol] at hv hvc hlk
  have HOL:=hid hol
  clear hol
  subst hv
  by_cases hlt:k < n
  ·have hki:(k:Int) < (n:Int):=by omega
   have hkl:k < l.length:=by rw [<-HN.out]; exact hlt
   obtain ⟨b0,of0,haa,hbb,q0,q1⟩:=fl_cells (HL.out.below HI.out.be (Nat.le_refl _)) hkl
   have hpl:=HP.out _ (List.getElem_mem hkl)
   have HTF:Hid ((l.take (k + 1)).filter (fun f=>ownsB f.path)=((l.take k).filter fun f=>ownsB f.path) ++ (if ownsB l[k].path=true then [l[k]] else [])):=hid (by
    rw [List.take_succ_eq_append_getElem hkl,List.filter_append]
    congr 1
    cases h:ownsB l[k].path <;> simp [h])
   generalize l[k]=x at q0 q1 hpl HTF
   obtain ⟨P,D⟩:=x
   simp only at q0 q1 hpl HTF
   subst haa
   have HOC:=hid (owns_cut P)
   obtain ⟨u1,hu1⟩:∃ u1,u1=wr.alloc (.cells #[.string ⟨P.toArray⟩,.string ⟨D.toArray⟩] 55):=⟨_,rfl⟩
   have h1:Below wr.heap.size wr u1:=by rw [hu1]; exact (Below.refl _ _).alloc (Nat.le_refl _) _
   have HI1:=hid (HI.out.below h1)
   have HK1:Hid (BK wr.heap.size #[.string ⟨P.toArray⟩,.string ⟨D.toArray⟩] 55 u1):=hid (by rw [hu1]; exact BK.new _ _ _)
   obtain ⟨c0,c1⟩:=HK1.out.c2
   obtain ⟨v',W',hrun,hi'⟩:=HI1.out.fl ⟨P,D⟩ (by rw [<-HOL.out]; omega)
   have HRUN:=hid hrun.out
   simp only [flCs] at HRUN
   have HIY:Hid (ownsB P=true->DfI flCs 2 55 w ((l.take (k + 1)).filter fun f=>ownsB f.path) v' W'):=hid (fun h=>by rw [HTF.out,if_pos h]; exact hi')
   have HINO:Hid (ownsB P=false->DfI flCs 2 55 w ((l.take (k + 1)).filter fun f=>ownsB f.path) (.slice va ol vc) u1):=hid (fun h=>by rw [HTF.out,if_neg (by rw [h]; simp),List.append_nil]; exact HI1.out)
   have HU:=hid hu1
   rw [hu1] at c0 c1
   have hps:=ba_len P
   obtain ⟨pl,hpl2⟩:∃ pl,pl=P.length:=⟨_,rfl⟩
   have HPLE:=hid hpl2
   rw [<-hpl2] at hps hpl HOC
   clear hu1 h1 hrun hi' HI HI1 HK1 HTF hpl2
   by_cases h6:pl < 6
   ·have HNO:=hid (HINO.out (by rw [HOC.out,decide_eq_false (by omega)]; rfl))
    have h60:¬ (0:Int)<=(pl:Int) - 6:=by omega
    clear HIY HINO HOC HRUN
    go_wp2_with fail
    rw [<-HU.out]
    go_roundw
    case rel=>exact ⟨k + 1,by omega,by go_num,HNO⟩
    case measure=>simp [intOf] <;> omega
   ·have h60:(0:Int)<=(pl:Int) - 6:=by omega
    have hsl:∀ W,(Instr.slice 9 (.string ⟨P.toArray⟩) (some (.int .i64 ((pl:Int) - 6))) none none).run Tryz.prog W = .ok (.string ⟨(P.drop (pl - 6)).toArray⟩) W:=fun W=>by
     have:=sl_lo P (pl - 6) (by have:=HPLE.out; omega) W
     rwa [show ((pl - 6:Nat):Int)=(pl:Int) - 6 by omega] at this
    obtain ⟨Q,hQ⟩:∃ Q,Q=P.drop (pl - 6):=⟨_,rfl⟩
    rw [<-hQ] at hsl HOC
    clear hQ
    cases hb1:(Q == ownN) with
    | false=>
     have hb2:(Q == [79,87,78,69,82,83])=false:=hb1
     have HNO:=hid (HINO.out (by rw [HOC.out,hb1]; simp))
     clear HIY HINO HOC HRUN hb1
     go_wp2_with fail
     rw [<-HU.out]
     go_roundw
     case rel=>exact ⟨k + 1,by omega,by go_num,HNO⟩
     case measure=>simp [intOf] <;> omega
    | true=>
     have hb2:(Q == [79,87,78,69,82,83])=true:=hb1
     have HOC2:Hid (ownsB P=(decide (pl=6) || decide (P[pl - 7]? = some 47))):=hid (by rw [HOC.out,hb1,decide_eq_true (by omega)]; rfl)
     clear HOC hb1
     by_cases he:pl=6
     ·have HYS:=hid (HIY.out (by rw [HOC2.out,decide_eq_true he]; rfl))
      have hz0:((pl:Int) - 6 == 0)=true:=by simp; omega
      clear HIY HINO HOC2 he
      rw [HU.out,World.size_alloc] at HRUN
      go_wp2_with (at_builtin; refine Lib.wpList_append_run _ rfl _ _ _ _ rfl _ _ rfl rfl _ _ HRUN.out ?_)
      go_roundw
      case rel=>exact ⟨k + 1,by omega,by go_num,HYS⟩
      case measure=>simp [intOf] <;> omega
     ·have hz0:((pl:Int) - 6 == 0)=false:=by simp; omega
      have h7:pl - 7 < P.length:=by have:=HPLE.out; omega
      have hix:∀ W,(Instr.index 9 (.string ⟨P.toArray⟩) (.int .i64 ((pl:Int) - 6 - 1))).run Tryz.prog W = .ok (.int .u8 ((P[pl - 7]).toNat:Int)) W:=fun W=>by
       have:=idxA P (pl - 7) h7 W
       rwa [show ((pl - 7:Nat):Int)=(pl:Int) - 6 - 1 by omega] at this
      have HO3:Hid (ownsB P=true ↔ ((P[pl - 7]).toNat:Int)=47):=hid (by
       rw [HOC2.out,decide_eq_false he,Bool.false_or,decide_eq_true_eq,List.getElem?_eq_getElem h7,Option.some.injEq,<-UInt8.toNat_inj]
       simp; omega)
      generalize ((P[pl - 7]).toNat:Int)=ch at hix HO3
      clear HOC2
      by_cases h47:ch=47
      ·have HYS:=hid (HIY.out (HO3.out.2 h47))
       clear HIY HINO HO3
       subst h47
       rw [HU.out,World.size_alloc] at HRUN
       go_wp2_with (at_builtin; refine Lib.wpList_append_run _ rfl _ _ _ _ rfl _ _ rfl rfl _ _ HRUN.out ?_)
       go_roundw
       case rel=>exact ⟨k + 1,by omega,by go_num,HYS⟩
       case measure=>simp [intOf] <;> omega
      ·have HNO:=hid (HINO.out (by
        cases hh:ownsB P with
        | false=>rfl
        | true=>exact absurd (HO3.out.1 hh) h47))
       clear HIY HINO HRUN HO3
       go_wp2_with fail
       rw [<-HU.out]
       go_roundw
       case rel=>exact ⟨k + 1,by omega,by go_num,HNO⟩
       case measure=>simp [intOf] <;> omega
  ·have hki:¬ (k:Int) < (n:Int):=by omega
   have HTK:Hid (T=(l.take k).filter fun f=>ownsB f.path):=hid (by rw [HT.out,List.take_of_length_le (by have:=HN.out; omega)])
   have HO:=hid HI.out
   clear HI
   go_wp2_with fail
   go_ret
   have hto:T.length=ol:=by rw [HTK.out,HOL.out]
   refine ⟨va,vc,by rw [hto]; rfl,?_,HO.out.be⟩
   have:=HO.out.ow
   rw [<-HTK.out,<-hto] at this
   exact this
abbrev TOw:TypeId:=90
def owCs (x:Fc × Hd):List Value:=fcCs x.1 ++ [hdV x.2]
theorem layOw:Lay owCs 6:=⟨by decide,fun o=>rfl,fun o v hv=>by
 simp only [owCs,fcCs,List.mem_cons,List.mem_append,List.not_mem_nil,or_false] at hv
 rcases hv with (rfl | rfl | rfl | rfl | rfl) | rfl <;> rfl⟩
theorem infoOw:(Tryz.prog.info? 90).map (fun i=>(i.zero,i.size,i.bytes))=some (some (.agg #[.string ⟨#[]⟩,.bool false,.bool false,.string ⟨#[]⟩,.string ⟨#[]⟩,.slice none 0 0]),6,80):=by kernel_rfl
theorem append_ow {base:Nat} {W:World} {v:Value} {n:Nat} {l:List (Fc × Hd)} (hn:n=l.length) (hown:W.ownsRow base TOw 6 v n (gcs owCs l)) (x:Fc × Hd) (hlen:(n:Int)<=1000000) (hbase:base<=W.heap.size) :
  ∃ v' W',Hid ((Builtin.append_ #[58,58] 58 #[v,.slice (some ⟨W.heap.size,0,none⟩) 1 1]).run Tryz.prog (W.alloc (.cells (owCs x).toArray 90)) = .ok v' W')/\W'.ownsRow base TOw 6 v' (n + 1) (gcs owCs (l ++ [x]))/\(W.alloc (.cells (owCs x).toArray 90)).grownBy W' v.ownBlock/\(v'.ownBlock=v.ownBlock\/v'.ownBlock=some (W.heap.size + 1)):=by
 obtain ⟨i0,hi,hz0,hz1,hz2⟩:=info_parts infoOw
 exact append_oneG layOw Tryz.underlying58 hi hz0 hz1 hz2 rfl hn hown x hlen (by decide) hbase
abbrev Ow:=Fc × List (List Pa)
def OwW (B:Nat) (W:World) (x:Fc × Hd) (y:Ow):Prop:=x.1=y.1/\GrW B W x.2 y.2
def OlW (B:Nat) (W:World) (h:Hd) (L:List Ow):Prop:=∃ X,RoW owCs 6 TOw B W h X/\Al (OwW B W) X L
theorem OwW.grow {B B':Nat} {W W':World} {x:Fc × Hd} {y:Ow} {row:Option Nat} (h:OwW B W x y) (hg:W.grownBy W' row) (hf:Far [TSt,TSl] B W row) (hB:B<=B'):OwW B' W' x y:=⟨h.1,h.2.grow hg hf hB⟩
theorem OlW.grow {B B':Nat} {W W':World} {h:Hd} {L:List Ow} {row:Option Nat} (hr:OlW B W h L) (hg:W.grownBy W' row) (hf:Far [TSt,TSl,TOw] B W row) (hB:B<=B'):OlW B' W' h L:=by
 obtain ⟨X,h1,h2⟩:=hr
 exact ⟨X,h1.grow hg (hf.sub (by simp)) hB,h2.imp (fun a b hab=>hab.grow hg (hf.sub (by simp)) hB)⟩
theorem OlW.below {W W':World} {h:Hd} {L:List Ow} (hr:OlW W.heap.size W h L) (hb:Below W.heap.size W W'):OlW W'.heap.size W' h L:=hr.grow (gr_below hb) (Far.none _ _ _) hb.size
theorem OlW.len {B:Nat} {W:World} {h:Hd} {L:List Ow} (hr:OlW B W h L):h.2.1=L.length:=by
 obtain ⟨X,h1,h2⟩:=hr
 rw [h1.len,h2.len]
theorem ol_cells {B:Nat} {W:World} {h:Hd} {L:List Ow} (hr:OlW B W h L) {i:Nat} (hi:i < L.length):∃ b off x,h.1=some ⟨b,off,none⟩/\b < B/\W.cell? ⟨b,off + i * 6,none⟩=some (.string ⟨(L[i].1.path).toArray⟩)/\W.cell? ⟨b,off + i * 6 + 1,none⟩=some (.bool L[i].1.ho)/\W.cell? ⟨b,off + i * 6 + 2,none⟩=some (.bool L[i].1.hn)/\W.cell? ⟨b,off + i * 6 + 3,none⟩=some (.string ⟨(L[i].1.old).toArray⟩)/\W.cell? ⟨b,off + i * 6 + 4,none⟩=some (.string ⟨(L[i].1.new).toArray⟩)/\W.cell? ⟨b,off + i * 6 + 5,none⟩=some (hdV x)/\GrW B W x L[i].2:=by
 obtain ⟨X,h1,h2⟩:=hr
 have hi':i < X.length:=by rw [h2.len]; exact hi
 obtain ⟨b,off,g1,g2,g3⟩:=h1.row i hi'
 have hx:=h2.get i hi' hi
 rw [<-hx.1]
 exact ⟨b,off,X[i].2,g1,g2,g3 0 _ rfl,g3 1 _ rfl,g3 2 _ rfl,g3 3 _ rfl,g3 4 _ rfl,g3 5 _ rfl,hx.2⟩
abbrev Fcs (B:Nat) (W:World) (a:Option Addr) (l:List Fc):Prop:=GIn fcCs 5 B W a l
theorem fc_cells {B:Nat} {W:World} {a:Option Addr} {l:List Fc} (h:Fcs B W a l) {k:Nat} (hk:k < l.length):∃ b off,a=some ⟨b,off,none⟩/\b < B/\W.cell? ⟨b,off + k * 5,none⟩=some (.string ⟨(l[k].path).toArray⟩)/\W.cell? ⟨b,off + k * 5 + 1,none⟩=some (.bool l[k].ho)/\W.cell? ⟨b,off + k * 5 + 2,none⟩=some (.bool l[k].hn)/\W.cell? ⟨b,off + k * 5 + 3,none⟩=some (.string ⟨(l[k].old).toArray⟩)/\W.cell? ⟨b,off + k * 5 + 4,none⟩=some (.string ⟨(l[k].new).toArray⟩):=by
 obtain ⟨b,off,h1,h2,h3⟩:=h k hk
 exact ⟨b,off,h1,h2,h3 0 _ rfl,h3 1 _ rfl,h3 2 _ rfl,h3 3 _ rfl,h3 4 _ rfl⟩
def rulF (l:List Fl):List Fl:=l.filter fun f=>ownsB f.path
def exL (l m:List Fl):List Ow:=(dfL l m).map fun c=>(c,groupsS l c.path)
def exOk (l m:List Fl):Prop:=checkF l=0/\checkF m=0/\∀ c ∈ dfL l m,grOk (rulF l) c.path
theorem groupsS_rul (l:List Fl) (P:Pa):groupsS (rulF l) P=groupsS l P:=by unfold groupsS rulF; rw [ruM_filter]
structure ExI (u:World) (acc:List Ow) (v:Value) (W:World):Prop where
 ex:∃ X,W.ownsRow u.heap.size TOw 6 v acc.length (gcs owCs X)/\Al (OwW W.heap.size W) X acc
 be:Below u.heap.size u W
theorem ExI.below {u W W':World} {acc:List Ow} {v:Value} (h:ExI u acc v W) (hb:Below W.heap.size W W'):ExI u acc v W':=by
 obtain ⟨X,h1,h2⟩:=h.ex
 exact ⟨⟨X,own_below h1 hb,h2.imp (fun a y hr=>hr.grow (gr_below hb) (Far.none _ _ _) hb.size)⟩,h.be.trans (hb.mono h.be.size)⟩
theorem ExI.add {u W:World} {acc:List Ow} {v:Value} (h:ExI u acc v W) (x:Fc × Hd) (G:List (List Pa)) (hx:GrW W.heap.size W x.2 G) (hn:(acc.length:Int)<=1000000) :
  ∃ v' W',Hid ((Builtin.append_ #[58,58] 58 #[v,.slice (some ⟨W.heap.size,0,none⟩) 1 1]).run Tryz.prog (W.alloc (.cells (owCs x).toArray 90)) = .ok v' W')/\ExI u (acc ++ [(x.1,G)]) v' W':=by
 obtain ⟨X,h1,h2⟩:=h.ex
 have hlen:=h2.len
 obtain ⟨v',W',hrun,hown,hgr,_⟩:=append_ow hlen.symm h1 x hn h.be.size
 have gA:=gal W (.cells (owCs x).toArray TOw)
 have f1:=h1.alloc (.cells (owCs x).toArray TOw)
 have hlow:∀ k,v.ownBlock=some k->u.heap.size<=k:=fun k hk=>(h1.lt k hk).1
 have hs1:(W.alloc (.cells (owCs x).toArray TOw)).heap.size=W.heap.size + 1:=by simp
 have hs2:W.heap.size + 1<=W'.heap.size:=by have:=hgr.size; simpa using this
 have key:∀ {a:Hd} {r:List (List Pa)},GrW W.heap.size W a r->GrW W'.heap.size W' a r:=fun hr=>(hr.grow gA (Far.none _ _ _) (Nat.le_refl _)).grow hgr (Far.own f1 (by decide)) (by omega)
 exact ⟨v',W',hrun,⟨X ++ [x],by rw [List.length_append]; exact hown,(h2.imp (fun a y hr=>⟨hr.1,key hr.2⟩)).snoc ⟨rfl,key hx⟩⟩,(h.be.alloc h.be.size _).grown hgr (by have:=h.be.size; simp; omega) hlow⟩
theorem ExI.ol {u W:World} {acc:List Ow} {v:Value} (h:ExI u acc v W):∃ a c,v = .slice a acc.length c/\OlW W.heap.size W (a,acc.length,c) acc:=by
 obtain ⟨X,h1,h2⟩:=h.ex
 obtain ⟨a,c,hv,hc⟩:=ownsRow_sliceN h1
 subst hv
 have hl:=h2.len
 exact ⟨a,c,rfl,X,RoW.of_own (h:=(a,acc.length,c)) layOw hl.symm h1,h2⟩
def GotEx (w:World) (l m:List Fl) (e:Ending) (w':World):Prop:=Below w.heap.size w w'/\∃ a n c k,e = .returned (.tuple #[.slice a n c,.int .i64 k])/\
 ((exOk l m/\k=0/\n=(exL l m).length/\OlW w'.heap.size w' (a,n,c) (exL l m))\/(¬ exOk l m/\k ≠ 0))
theorem examine_any (a:Option Addr) (l:List Fl) (c:Nat) (a2:Option Addr) (m:List Fl) (c2:Nat) (w:World) (hl:Fls w.heap.size w a l) (hm:Fls w.heap.size w a2 m) (hs:SmF l) (hs2:SmF m) :
  Calls Tryz.prog 18 #[.slice a l.length c,.slice a2 m.length c2] w (GotEx w l m):=by
 have HC:=hid (tcheck_any a l c w hl hs.1 (fun x hx=>(hs.2 x hx).1) (fun x hx=>(hs.2 x hx).2))
 have HC2:=hid (fun W (hb:Below w.heap.size w W)=>tcheck_any a2 m c2 W ((hm.below hb (Nat.le_refl _)).mono hb.size) hs2.1 (fun x hx=>(hs2.2 x hx).1) (fun x hx=>(hs2.2 x hx).2))
 have HR:=hid (fun W (hb:Below w.heap.size w W)=>rulesOnly_any a l c W ((hl.below hb (Nat.le_refl _)).mono hb.size) (by have:=hs.1; omega) (fun x hx=>(hs.2 x hx).1))
 have HG:=hid (fun W (hb:Below w.heap.size w W)=>difference_any a l c a2 m c2 W ((hl.below hb (Nat.le_refl _)).mono hb.size) ((hm.below hb (Nat.le_refl _)).mono hb.size) (by have:=hs.1; omega) (by have:=hs2.1; omega))
 have HDL:Hid ((dfL l m).length<=400):=hid (by have:=df_len (l.length + m.length) l m; have:=hs.1; have:=hs2.1; unfold dfL; omega)
 have HPL:Hid (∀ x ∈ dfL l m,x.path.length<=100000):=hid (fun x hx=>by
  rcases df_path _ _ _ x hx with ⟨y,h1,h2⟩ | ⟨y,h1,h2⟩
  ·rw [<-h2]; exact (hs.2 y h1).1
  ·rw [<-h2]; exact (hs2.2 y h1).1)
 have HSR:Hid (SmF (rulF l)):=hid ⟨Nat.le_trans (List.length_filter_le _ _) hs.1,fun x hx=>hs.2 x (List.mem_filter.1 hx).1⟩
 have HOK:Hid (exOk l m ↔ checkF l=0/\checkF m=0/\∀ c ∈ dfL l m,grOk (rulF l) c.path):=hid Iff.rfl
 have HEX:Hid (exL l m=(dfL l m).map fun c=>(c,groupsS l c.path)):=hid rfl
 generalize checkF l=k1 at HC HOK
 generalize checkF m=k2 at HC2 HOK
 clear hl hm hs hs2
 by_cases h1:k1=0
 ·subst h1
  go_enter Tryz.func18,Tryz.ntmps18
  go_wp2_with fail
  (with_reducible refine HC.out.mono ?_)
  rintro e u1 ⟨rfl,hb1⟩
  have HB1:=hid hb1
  have HC2u:=hid (HC2.out u1 hb1)
  clear hb1 HC HC2
  by_cases h2:k2=0
  ·subst h2
   have HOK2:Hid (exOk l m ↔ ∀ c ∈ dfL l m,grOk (rulF l) c.path):=hid (by rw [HOK.out]; simp)
   clear HOK
   go_wp2_with fail
   (with_reducible refine HC2u.out.mono ?_)
   rintro e u2 ⟨rfl,hb2⟩
   have hb:=HB1.out.trans (hb2.mono HB1.out.size)
   have HB2:=hid hb
   have HRu:=hid (HR.out u2 hb)
   clear hb2 hb HC2u HR HB1
   go_wp2_with fail
   (with_reducible refine HRu.out.mono ?_)
   rintro e y3 ⟨va,vc,rfl,hro,hb3⟩
   have hb:=HB2.out.trans (hb3.mono HB2.out.size)
   have hrl:Fls y3.heap.size y3 va (rulF l):=own_gin layFl rfl hro
   have HB3:=hid hb
   have HRL:=hid hrl
   have HGu:=hid (HG.out y3 hb)
   obtain ⟨nr,hnr⟩:∃ nr,nr=(rulF l).length:=⟨_,rfl⟩
   have HNR:=hid hnr
   rw [show (l.filter fun f=>ownsB f.path).length=nr from hnr.symm]
   clear hb3 hb hro hrl HRu HB2 HG hnr
   go_wp2_with fail
   (with_reducible refine HGu.out.mono ?_)
   rintro e y4 ⟨da,dc,rfl,hdo,hb4⟩
   have hdl:Fcs y4.heap.size y4 da (dfL l m):=own_gin layFc rfl hdo
   have HDW:=hid hdl
   have HRL4:=hid ((HRL.out.below hb4 (Nat.le_refl _)).mono hb4.size)
   have HB4:=hid (HB3.out.trans (hb4.mono HB3.out.size))
   obtain ⟨DL,hDL⟩:∃ DL,DL=dfL l m:=⟨_,rfl⟩
   rw [<-hDL] at HDL HPL HOK2 HEX HDW ⊢
   obtain ⟨nd,hnd⟩:∃ nd,nd=DL.length:=⟨_,rfl⟩
   have HND:=hid hnd
   rw [<-hnd] at HDL ⊢
   have hnd4:=HDL.out
   clear hb4 hdo hdl HGu HB3 HRL hDL hnd
   go_wp2_with fail
   go_loopw [30,9] (fun i v wr=>∃ (k:Nat),i = .int .i64 (k:Int)/\k<=nd/\Hid (∀ j (hj:j < DL.length),j < k->grOk (rulF l) DL[j].path)/\Hid (ExI y4 ((DL.take k).map fun c=>(c,groupsS l c.path)) v wr)) (fun i _ _=>nd - (intOf i).toNat)
   case atStart=>exact ⟨0,rfl,by omega,hid (fun j hj h=>by omega),hid ⟨⟨[],World.ownsRow_nil _ _ _ _,.nil⟩,Below.refl _ _⟩⟩
   case round=>
    obtain ⟨k,rfl,hk,HA,HI⟩:=hrel
    by_cases hlt:k < nd
    ·have hki:(k:Int) < (nd:Int):=by omega
     have hkl:k < DL.length:=by rw [<-HND.out]; exact hlt
     obtain ⟨b0,o0,hab,hb0,q0,q1,q2,q3,q4⟩:=fc_cells (HDW.out.below HI.out.be (Nat.le_refl _)) hkl
     have hpl:=HPL.out _ (List.getElem_mem hkl)
     have hml:((DL.take k).map fun c=>(c,groupsS l c.path)).length<=1000:=by rw [List.length_map,List.length_take]; omega
     have HTK:Hid ((DL.take (k + 1)).map (fun c=>(c,groupsS l c.path))=((DL.take k).map fun c=>(c,groupsS l c.path)) ++ [(DL[k],groupsS l DL[k].path)]):=hid (by rw [List.take_succ_eq_append_getElem hkl,List.map_append]; rfl)
     have HNX:Hid (grOk (rulF l) DL[k].path->∀ j (hj:j < DL.length),j < k + 1->grOk (rulF l) DL[j].path):=hid (fun h j hj hjk=>by
      rcases Nat.lt_or_ge j k with h3 | h3
      ·exact HA.out j hj h3
      ·obtain rfl:j=k:=by omega
       exact h)
     have HBD:Hid (¬ grOk (rulF l) DL[k].path->¬ exOk l m):=hid (fun h h2=>h (HOK2.out.1 h2 _ (List.getElem_mem hkl)))
     generalize DL[k]=x at q0 q1 q2 q3 q4 hpl HTK HNX HBD
     obtain ⟨P,ho,hn,ol,nw⟩:=x
     simp only at q0 q1 q2 q3 q4 hpl HTK HNX HBD
     subst hab
     obtain ⟨v1,hv1⟩:∃ v1,v1=wr.alloc (.cells #[.string ⟨P.toArray⟩,.bool ho,.bool hn,.string ⟨ol.toArray⟩,.string ⟨nw.toArray⟩] 42):=⟨_,rfl⟩
     have h1:Below wr.heap.size wr v1:=by rw [hv1]; exact (Below.refl _ _).alloc (Nat.le_refl _) _
     have HI1:=hid (HI.out.below h1)
     have HK1:Hid (BK wr.heap.size #[.string ⟨P.toArray⟩,.bool ho,.bool hn,.string ⟨ol.toArray⟩,.string ⟨nw.toArray⟩] 42 v1):=hid (by rw [hv1]; exact BK.new _ _ _)
     have HGR:=hid (groups_any va (rulF l) vc P v1 ((HRL4.out.below HI1.out.be (Nat.le_refl _)).mono HI1.out.be.size) HSR.out hpl)
     rw [<-HNR.out] at HGR
     obtain ⟨c0,c1,c2,c3,c4⟩:=HK1.out.c5
     have HV:=hid hv1
     rw [hv1] at c0 c1 c2 c3 c4
     clear hv1 h1 HI HA
     go_wp2_with fail
     rw [<-HV.out]
     (with_reducible refine HGR.out.mono ?_)
     rintro e y5 ⟨hb5,ga,gn,gc,gk,rfl,hgk⟩
     have HI5:=hid (HI1.out.below hb5)
     obtain ⟨d0,d1,d2,d3,d4⟩:=(HK1.out.below hb5).c5
     have HB5:Hid (Below w.heap.size w y5):=hid (HB4.out.trans (HI5.out.be.mono HB4.out.size))
     clear hb5 HGR HI1 HK1 HV c0 c1 c2 c3 c4 q0 q1 q2 q3 q4
     rcases hgk with ⟨hg1,rfl,rfl,hg4⟩ | ⟨hg1,hg2⟩
     ·rw [groupsS_rul] at hg4 ⊢
      obtain ⟨gn,hgn⟩:∃ gn,gn=(groupsS l P).length:=⟨_,rfl⟩
      rw [<-hgn] at hg4 ⊢
      obtain ⟨v',W',hrun,hi'⟩:=HI5.out.add (⟨P,ho,hn,ol,nw⟩,(ga,gn,gc)) (groupsS l P) hg4 (by omega)
      have HNX2:=hid (HNX.out hg1)
      have HI6:Hid (ExI y4 ((DL.take (k + 1)).map fun c=>(c,groupsS l c.path)) v' W'):=hid (by rw [HTK.out]; exact hi')
      simp only [owCs,fcCs,hdV,List.cons_append,List.nil_append] at hrun
      have HRUN:=hid hrun.out
      clear hrun hi' hg4 hg1 HI5 HTK HNX HBD hgn
      go_wp2_with (at_builtin; refine Lib.wpList_append_run _ rfl _ _ _ _ rfl _ _ rfl rfl _ _ HRUN.out ?_)
      go_roundw
      case rel=>exact ⟨k + 1,by go_num,by omega,HNX2,HI6⟩
      case measure=>simp [intOf] <;> omega
     ·have HNO:=hid (HBD.out hg1)
      clear HBD HNX HTK HI5
      go_wp2_with fail
      go_ret2
      exact ⟨HB5.out,none,0,0,gk,rfl,.inr ⟨HNO.out,hg2⟩⟩
    ·have hki:¬ (k:Int) < (nd:Int):=by omega
     have hall:=HOK2.out.2 (fun c hc=>by
      obtain ⟨j,hj,rfl⟩:=List.getElem_of_mem hc
      exact HA.out j hj (by have:=HND.out; omega))
     obtain ⟨ra,rc,hv,hol⟩:=HI.out.ol
     have hEE:(DL.take k).map (fun c=>(c,groupsS l c.path))=exL l m:=by rw [HEX.out,List.take_of_length_le (by have:=HND.out; omega)]
     rw [hEE] at hv hol
     have HO:=hid hol
     have HAL:=hid hall
     have HB9:Hid (Below w.heap.size w wr):=hid (HB4.out.trans (HI.out.be.mono HB4.out.size))
     clear HI HA hall hol hEE
     subst hv
     go_wp2_with fail
     go_ret2
     exact ⟨HB9.out,ra,_,rc,0,rfl,.inl ⟨HAL.out,rfl,rfl,HO.out⟩⟩
  ·have HNO:Hid (¬ exOk l m):=hid (fun h=>h2 (HOK.out.1 h).2.1)
   go_wp2_with fail
   (with_reducible refine HC2u.out.mono ?_)
   rintro e u2 ⟨rfl,hb2⟩
   have HB2:=hid (HB1.out.trans (hb2.mono HB1.out.size))
   clear hb2 HC2u
   go_wp2_with fail
   go_ret2
   exact ⟨HB2.out,none,0,0,k2,rfl,.inr ⟨HNO.out,h2⟩⟩
 ·have HNO:Hid (¬ exOk l m):=hid (fun h=>h1 (HOK.out.1 h).1)
  go_enter Tryz.func18,Tryz.ntmps18
  go_wp2_with fail
  (with_reducible refine HC.out.mono ?_)
  rintro e u1 ⟨rfl,hb1⟩
  have HB1:=hid hb1
  clear hb1 HC
  go_wp2_with fail
  go_ret2
  exact ⟨HB1.out,none,0,0,k1,rfl,.inr ⟨HNO.out,h1⟩⟩
end Go.Proofs.YtdedfkljaeloiaaGreatDoor
