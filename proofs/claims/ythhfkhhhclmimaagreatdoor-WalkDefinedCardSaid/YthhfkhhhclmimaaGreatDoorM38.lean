/- A part of WalkG. No condition. -/
import Derived.Test.YthhfkhhhclmimaaGreatDoorM22
import Derived.Test.YthhfkhhhclmimaaGreatDoorM04
set_option linter.unusedVariables false
set_option linter.unusedSimpArgs false
open Go.Proofs.Tryz
set_option maxRecDepth 10000
set_option maxHeartbeats 4000000
namespace Go.Proofs.dS
open Go Go.RowKit Go.Proofs.K
def Wb(l:List (Int × Int)):List Value:=l.flatMap fun p=>[I_ p.1,I_ p.2]
structure Wc(w:World)(b o:Nat)(a:Option Addr)(c:Nat)(l:List (Int × Int)):Prop where
 cell:w.cell? ⟨b,o,none⟩=some (.slice a l.length c)
 er:w.frozen? ⟨b,o,none⟩=false
 own:fp w 380 2 a l.length c (Wb l)
 ne:dF a≠some b
 lt:b<w.heap.size
theorem DX(b o:Nat)(a:Option Addr)(c:Nat)(l:List (Int × Int))(w:World)(h:Wc w b o a c l)(f:l.length<=1000) :
 Calls prog 88 #[.pointer (some ⟨b,o,none⟩)] w fun e w'=>e=.returned (.bool (l == []))/\w=w':=by
 have d:=h.cell;clear h;cases l with
 | nil =>
  go_enter func88,ntmps88;go_wp2;go_ret;exact⟨rfl,rfl⟩
 | cons x l =>
  simp only[List.length_cons]at d;go_enter func88,ntmps88;go_wp2;go_ret;exact⟨rfl,rfl⟩
end Go.Proofs.dS
