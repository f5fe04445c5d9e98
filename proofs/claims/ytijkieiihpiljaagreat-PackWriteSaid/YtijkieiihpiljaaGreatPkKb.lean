/- Deltas: the reference's add. -/
import Derived.Test.YtijkieiihpiljaaGreatPkKa
set_option maxRecDepth 100000
set_option maxHeartbeats 16000000
open Go.Lib (hid)
namespace Go.Proofs.YtijkieiihpiljaaGreat
open Go.RowKit Go.Shelf
set_option linter.unusedVariables false
theorem gin_src {α:Type} {f:α->List Value} {z B:Nat} {W:World} {a:Option Addr} {ys:List α} (hf:Lay f z) (h:GIn f z B W a ys):Src W a (gcs f ys):=by
 cases hy:ys with
 | nil=>exact .inl rfl
 | cons y ys'=>
  rw [<-hy]
  have h0:0 < ys.length:=by rw [hy]; simp
  obtain ⟨b,off,rfl,_⟩:=h 0 h0
  refine .inr ⟨_,rfl,fun j u hu=>?_⟩
  have hj:j < ys.length * z:=by
   have:=(List.getElem?_eq_some_iff.1 hu).1
   rwa [gcs_length hf] at this
  have hz:=hf.pos
  have hi:j / z < ys.length:=(Nat.div_lt_iff_lt_mul hz).2 hj
  have hr:j % z < z:=Nat.mod_lt _ hz
  have hjd:j=j / z * z + j % z:=by rw [Nat.mul_comm]; exact (Nat.div_add_mod j z).symm
  obtain ⟨b',off',e,_,hc⟩:=h (j / z) hi
  cases e
  rw [hjd,gcs_at hf ys _ hi _ hr] at hu
  rw [Go.WideShapes.add_plain,hjd,<-Nat.add_assoc]
  exact hc _ _ hu
theorem append_ops {W:World} {base:Nat} {v:Value} {n:Nat} {l:List Dop} (hown:W.ownsRow base 180 3 v n (gcs opCs l)) (hn:n=l.length) (a:Option Addr) (ys:List Dop) (m c:Nat) (hm:m=ys.length) (hy:GIn opCs 3 W.heap.size W a ys) (hlen:((n + m:Nat):Int)<=1000000) (hbase:base<=W.heap.size) :
  ∃ v' W',Hid ((Builtin.append_ #[143,143] 143 #[v,.slice a m c]).run Tryz.prog W = .ok v' W')/\W'.ownsRow base 180 3 v' (n + m) (gcs opCs (l ++ ys))/\W.grownBy W' v.ownBlock/\(v'.ownBlock=v.ownBlock\/v'.ownBlock=some W.heap.size):=by
 obtain ⟨i0,hi,hz0,hz1,hz2⟩:=info_parts infoOp
 obtain ⟨v',W',h1,h2,h3,h4⟩:=append_src (P:=Tryz.prog) W base 143 143 180 i0 _ 3 32 Tryz.underlying143 hi hz0 hz1 hz2 rfl (by decide) v n (gcs opCs l) hown a m c (gcs opCs ys) (by rw [gcs_length layOp,hm]) (gin_src layOp hy) (gcs_ones layOp ys) (by unfold maxLen; omega) (by omega) hbase
 exact ⟨v',W',hid h1,by rw [gcs_append]; exact h2,h3,h4⟩
theorem size_op (W:World):(sizeOf (Tryz.prog.elem 143)).run Tryz.prog W = .ok 3 W:=by
 obtain ⟨i,h1,_,h3,_⟩:=info_parts infoOp
 rw [show Tryz.prog.elem 143 = 180 by kernel_rfl]
 simp [sizeOf,typeInfo,h1,h3]
theorem oslice_hi (a:Option Addr) (n c f:Nat) (h:f<=c):∃ (A1:Option Addr) (c1:Nat),(∀ B W ds,GIn opCs 3 B W a ds->GIn opCs 3 B W A1 (ds.take f))/\∀ W,(Instr.slice 143 (.slice a n c) none (some (.int .i64 f)) none).run Tryz.prog W = .ok (.slice A1 f c1) W:=by
 refine ⟨if c=0 then a else a.map (·.add (0 * 3)),c,fun B W ps hp i hi=>?_,fun W=>?_⟩
 ·have hi2:i < ps.length:=by rw [List.length_take] at hi; omega
  obtain ⟨b,off,rfl,hb,hc⟩:=hp i hi2
  refine ⟨b,off,?_,hb,fun j v hv=>hc j v ?_⟩
  ·split
   ·rfl
   ·simp [Addr.add]
  ·rw [List.getElem_take] at hv; exact hv
 ·rw [run_slice_h (P:=Tryz.prog) W 143 a n c (by kernel_rfl) .i64 f (by omega) (by omega),size_op]
  simp [sliced,Result.andThen]
theorem op_one {W:World} {b:Nat} {x:Dop} (hk:BK b (opCs x).toArray 180 W):GIn opCs 3 W.heap.size W (some ⟨b,0,none⟩) [x]:=fun i hi=>by
 obtain rfl:i=0:=by simp at hi; omega
 refine ⟨b,0,rfl,hk.lt,fun j v hv=>?_⟩
 rw [Nat.zero_mul,Nat.zero_add]
 first
 | (rw [hk.cell]; simpa using hv)
 | (rw [Nat.zero_add,hk.cell]; simpa using hv)
def GotLd (w:World) (l:List Dop) (e:Ending) (w':World):Prop:=∃ a c,e = .returned (.slice a l.length c)/\GIn opCs 3 w'.heap.size w' a l/\l.length<=c/\Below w.heap.size w w'
structure AppEnd (u:World) (L:List Dop) (a3:Option Addr) (c3:Nat) (z3:World):Prop where
 gin:GIn opCs 3 z3.heap.size z3 a3 L
 cap:L.length<=c3
 bel:Below u.heap.size u z3
theorem opB {u y:World} {bs:Nat} {L:List Dop} {A1:Option Addr} {c1 k:Nat} (hB:Below u.heap.size u y) (ho:y.ownsRow u.heap.size 180 3 (.slice (some ⟨bs,0,none⟩) 0 0) 0 []) (h1:GIn opCs 3 u.heap.size u A1 L) (hk:k=L.length) (hb:(k:Int)<=900000) :
  ∃ v1 z1,Hid ((Builtin.append_ #[143,143] 143 #[.slice (some ⟨bs,0,none⟩) 0 0,.slice A1 k c1]).run Tryz.prog y = .ok v1 z1)/\z1.ownsRow u.heap.size 180 3 v1 k (gcs opCs L)/\Below u.heap.size u z1/\y.grownBy z1 (some bs):=by
 obtain ⟨v1,z1,hr,hown,hg,_⟩:=append_ops (l:=[]) ho rfl A1 L k c1 hk (h1.ahead hB) (by omega) hB.size
 rw [Nat.zero_add,List.nil_append] at hown
 exact ⟨v1,z1,hr,hown,below_own hB ho hg (Nat.le_refl _),hg⟩
theorem opD1 {u z1:World} {v1:Value} {L:List Dop} {k:Nat} (x:Dop) (hown:z1.ownsRow u.heap.size 180 3 v1 k (gcs opCs L)) (hB:Below u.heap.size u z1) (hk:k=L.length) (hb:(k:Int)<=900000) :
  ∃ a3 c3 z3,Hid ((Builtin.append_ #[143,143] 143 #[v1,.slice (some ⟨z1.heap.size,0,none⟩) 1 1]).run Tryz.prog (z1.alloc (.cells (opCs x).toArray 180)) = .ok (.slice a3 (k + 1) c3) z3)/\Hid (AppEnd u (L ++ [x]) a3 c3 z3):=by
 obtain ⟨v',W',hr,hown',hg,_⟩:=append_op hk hown x (by omega) hB.size
 have hB2:Below u.heap.size u (z1.alloc (.cells (opCs x).toArray 180)):=hB.alloc hB.size _
 have hB3:=below_own hB2 (hown.alloc _) hg (Nat.le_refl _)
 obtain ⟨a3,c3,rfl,hc⟩:=ownsRow_sliceN hown'
 exact ⟨a3,c3,W',hr,hid ⟨own_gin layOp (by rw [List.length_append,List.length_singleton,hk]) hown',by rw [List.length_append,List.length_singleton]; omega,hB3⟩⟩
theorem opD2 {u z1:World} {v1:Value} {L:List Dop} {k xb:Nat} {x:Dop} (hown:z1.ownsRow u.heap.size 180 3 v1 k (gcs opCs L)) (hB:Below u.heap.size u z1) (hk:k=L.length) (hb:(k:Int)<=900000) (hx:BK xb (opCs x).toArray 180 z1) :
  ∃ a3 c3 z3,Hid ((Builtin.append_ #[143,143] 143 #[v1,.slice (some ⟨xb,0,none⟩) 1 1]).run Tryz.prog z1 = .ok (.slice a3 (k + 1) c3) z3)/\Hid (AppEnd u (L ++ [x]) a3 c3 z3):=by
 obtain ⟨v',W',hr,hown',hg,_⟩:=append_ops hown hk (some ⟨xb,0,none⟩) [x] 1 1 rfl (op_one hx) (by omega) hB.size
 have hB3:=below_own hB hown hg (Nat.le_refl _)
 obtain ⟨a3,c3,rfl,hc⟩:=ownsRow_sliceN hown'
 exact ⟨a3,c3,W',hr,hid ⟨own_gin layOp (by rw [List.length_append,List.length_singleton,hk]) hown',by rw [List.length_append,List.length_singleton]; omega,hB3⟩⟩
theorem opT1 {u:World} {L:List Dop} {A1:Option Addr} {c1 k:Nat} (x:Dop) (h1:GIn opCs 3 u.heap.size u A1 L) (hk:k=L.length) (hb:(k:Int)<=900000) :
  ∃ v1 z1 a3 c3 z3,Hid ((Builtin.append_ #[143,143] 143 #[.slice (some ⟨u.heap.size,0,none⟩) 0 0,.slice A1 k c1]).run Tryz.prog (u.alloc (.cells #[] 180)) = .ok v1 z1)/\
   Hid ((Builtin.append_ #[143,143] 143 #[v1,.slice (some ⟨z1.heap.size,0,none⟩) 1 1]).run Tryz.prog (z1.alloc (.cells (opCs x).toArray 180)) = .ok (.slice a3 (k + 1) c3) z3)/\Hid (AppEnd u (L ++ [x]) a3 c3 z3)/\Below u.heap.size u z1:=by
 have ho:(u.alloc (.cells #[] 180)).ownsRow u.heap.size 180 3 (.slice (some ⟨u.heap.size,0,none⟩) 0 0) 0 []:=(World.ownsRow_made (size:=3) u #[] 0 (Nat.le_refl _) (by decide) rfl)
 have hB0:Below u.heap.size u (u.alloc (.cells #[] 180)):=((Below.refl _ u).alloc (Nat.le_refl _) _)
 obtain ⟨v1,z1,hr,hown,hB1,hg⟩:=opB (c1:=c1) hB0 ho h1 hk hb
 obtain ⟨a3,c3,z3,hr2,he⟩:=opD1 x hown hB1 hk hb
 exact ⟨v1,z1,a3,c3,z3,hr,hr2,he,hB1⟩
theorem opT2 {u:World} {L:List Dop} {A1:Option Addr} {c1 k:Nat} (x:Dop) (h1:GIn opCs 3 u.heap.size u A1 L) (hk:k=L.length) (hb:(k:Int)<=900000) :
  ∃ v1 z1 a3 c3 z3,Hid ((Builtin.append_ #[143,143] 143 #[.slice (some ⟨u.heap.size,0,none⟩) 0 0,.slice A1 k c1]).run Tryz.prog (((u.alloc (.cells #[] 180)).alloc (.cells (opCs x).toArray 180))) = .ok v1 z1)/\
   Hid ((Builtin.append_ #[143,143] 143 #[v1,.slice (some ⟨u.heap.size + 1,0,none⟩) 1 1]).run Tryz.prog z1 = .ok (.slice a3 (k + 1) c3) z3)/\Hid (AppEnd u (L ++ [x]) a3 c3 z3)/\Below u.heap.size u z1:=by
 have ho:(((u.alloc (.cells #[] 180)).alloc (.cells (opCs x).toArray 180))).ownsRow u.heap.size 180 3 (.slice (some ⟨u.heap.size,0,none⟩) 0 0) 0 []:=((World.ownsRow_made (size:=3) u #[] 0 (Nat.le_refl _) (by decide) rfl).alloc _)
 have hB0:Below u.heap.size u (((u.alloc (.cells #[] 180)).alloc (.cells (opCs x).toArray 180))):=(((Below.refl _ u).alloc (Nat.le_refl _) _).alloc (by simp) _)
 have hk0:BK (u.heap.size + 1) (opCs x).toArray 180 (((u.alloc (.cells #[] 180)).alloc (.cells (opCs x).toArray 180))):=BK.new2 u (.cells #[] 180) (opCs x).toArray 180
 obtain ⟨v1,z1,hr,hown,hB1,hg⟩:=opB (c1:=c1) hB0 ho h1 hk hb
 obtain ⟨a3,c3,z3,hr2,he⟩:=opD2 hown hB1 hk hb (hk0.grow1 hg (by simp))
 exact ⟨v1,z1,a3,c3,z3,hr,hr2,he,hB1⟩
theorem opT3 {u:World} {L:List Dop} {A1:Option Addr} {c1 k:Nat} (x:Dop) (h1:GIn opCs 3 u.heap.size u A1 L) (hk:k=L.length) (hb:(k:Int)<=900000) :
  ∃ v1 z1 a3 c3 z3,Hid ((Builtin.append_ #[143,143] 143 #[.slice (some ⟨u.heap.size + 1,0,none⟩) 0 0,.slice A1 k c1]).run Tryz.prog (((u.alloc (.cells (opCs x).toArray 180)).alloc (.cells #[] 180))) = .ok v1 z1)/\
   Hid ((Builtin.append_ #[143,143] 143 #[v1,.slice (some ⟨u.heap.size,0,none⟩) 1 1]).run Tryz.prog z1 = .ok (.slice a3 (k + 1) c3) z3)/\Hid (AppEnd u (L ++ [x]) a3 c3 z3)/\Below u.heap.size u z1:=by
 have ho:(((u.alloc (.cells (opCs x).toArray 180)).alloc (.cells #[] 180))).ownsRow u.heap.size 180 3 (.slice (some ⟨u.heap.size + 1,0,none⟩) 0 0) 0 []:=by
  have:=(World.ownsRow_made (size:=3) (base:=u.heap.size) (e:=180) (u.alloc (.cells (opCs x).toArray 180)) #[] 0 (by simp) (by decide) rfl)
  rwa [World.size_alloc] at this
 have hB0:Below u.heap.size u (((u.alloc (.cells (opCs x).toArray 180)).alloc (.cells #[] 180))):=(((Below.refl _ u).alloc (Nat.le_refl _) _).alloc (by simp) _)
 have hk0:BK u.heap.size (opCs x).toArray 180 (((u.alloc (.cells (opCs x).toArray 180)).alloc (.cells #[] 180))):=(BK.new u (opCs x).toArray 180).alloc _
 obtain ⟨v1,z1,hr,hown,hB1,hg⟩:=opB (c1:=c1) hB0 ho h1 hk hb
 obtain ⟨a3,c3,z3,hr2,he⟩:=opD2 hown hB1 hk hb (hk0.grow1 hg (by simp))
 exact ⟨v1,z1,a3,c3,z3,hr,hr2,he,hB1⟩
end Go.Proofs.YtijkieiihpiljaaGreat
