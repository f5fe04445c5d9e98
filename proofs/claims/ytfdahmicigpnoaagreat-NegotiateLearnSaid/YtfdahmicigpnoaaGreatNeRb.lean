/- The reference: Begin. -/
import Derived.Test.YtfdahmicigpnoaaGreatNeRv
import Derived.Test.YtfdahmicigpnoaaGreatNeBx
import Derived.Test.YtfdahmicigpnoaaGreatNeSt
set_option maxRecDepth 100000
set_option maxHeartbeats 16000000
open Go.Lib (hid)
namespace Go.Proofs.YtfdahmicigpnoaaGreat
open Go.RowKit Go.Shelf
set_option linter.unusedVariables false
structure TkDg (W:World) (t:Tk) (A:TkA):Prop where
 w:Digs W.heap.size W A.wa t.want
 q:Digs W.heap.size W A.qa t.queue
 a:Digs W.heap.size W A.aa t.asked
 c:Digs W.heap.size W A.ca t.common
theorem TkIn.dg {W:World} {t:Tk} {A:TkA} (h:TkIn W t A):TkDg W t A:=⟨h.w,h.q,h.a,h.c⟩
theorem TkDg.zero (W:World) (A:TkA):TkDg W tk0 A:=⟨Digs.nil _ _ _,Digs.nil _ _ _,Digs.nil _ _ _,Digs.nil _ _ _⟩
theorem TkDg.ahead {w W:World} {t:Tk} {A:TkA} (h:TkDg w t A) (hb:Below w.heap.size w W):TkDg W t A:=⟨h.w.ahead hb,h.q.ahead hb,h.a.ahead hb,h.c.ahead hb⟩
theorem TkDg.store {W W':World} {tb:Nat} {cs:Array Value} {T:TypeId} {t:Tk} {A:TkA} (h:TkDg W t A) (hk:BK tb cs T W) (hn:NoInt cs) (hg:W.grownBy W' (some tb)):TkDg W' t A:=
 ⟨digs_store h.w hk hn hg,digs_store h.q hk hn hg,digs_store h.a hk hn hg,digs_store h.c hk hn hg⟩
def GotRT (w:World) (r:Tk × Int) (e:Ending) (w':World):Prop:=∃ A,e = .returned (.tuple #[r.1.val A,.int .i64 r.2])/\TkDg w' r.1 A/\Below w.heap.size w w'
theorem GotRT.bad {w w':World} (er:Int) (h:Below w.heap.size w w'):GotRT w (tk0,er) (.returned (.tuple #[.agg #[.slice none 0 0,.slice none 0 0,.slice none 0 0,.slice none 0 0,.bool false],.int .i64 er])) w':=⟨TkA0,rfl,TkDg.zero _ _,h⟩
theorem noint5 (a0 a1 a2 a3:Option Addr) (n0 n1 n2 n3 c0 c1 c2 c3:Nat) (b:Bool):NoInt #[.slice a0 n0 c0,.slice a1 n1 c1,.slice a2 n2 c2,.slice a3 n3 c3,.bool b]:=by
 intro j x
 match j with
 | 0=>simp
 | 1=>simp
 | 2=>simp
 | 3=>simp
 | 4=>simp
 | n + 5=>simp
end Go.Proofs.YtfdahmicigpnoaaGreat
