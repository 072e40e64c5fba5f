/- A part of WalkG. No condition. -/
import Derived.Test.YthhfkhhhclmimaaGreatDoorM39
import Derived.Test.YthhfkhhhclmimaaGreatDoorM34
import Derived.Test.YthhfkhhhclmimaaGreatDoorM11
set_option linter.unusedVariables false
set_option linter.unusedSimpArgs false
open Go.Proofs.Tryz
set_option maxRecDepth 10000
set_option maxHeartbeats 4000000
namespace Go.Proofs.dS
open Go Go.RowKit Go.Proofs.K
structure xM(w:World):Prop where
 QJ:∃ t f,w.heap[0]?=some (.cells (Lib.pow10Tab.map fun z=>Value.int .u64 z).toArray t f)
 gm:∃ m t f,w.heap[1]?=some (.cells #[I_ m] t f)
 lt:4<=w.heap.size
theorem xM.ct{S:Nat->Prop}{w w':World}(h:xM w)(k:cq S w w')(a:∀ g,g<4->¬ S g):xM w':=by
 obtain⟨⟨t,f,c⟩,⟨m,i,b,d⟩,e⟩:=h;exact⟨⟨t,f,k.heap c (a 0 (by decide))⟩,⟨m,i,b,k.heap d (a 1 (by decide))⟩,Nat.le_trans e k.size⟩
theorem xM.cL{w w':World}(h:xM w)(k:K_ w w'):xM w':=h.ct k (fun _ _=>id)
theorem oX : prog.globalNamed "internal/strconv.uint64pow10" = some 0 := by kernel_rfl
theorem xM.TJ{w : World}(h : xM w) : Lib.TabIs prog w "internal/strconv.uint64pow10" .u64 Lib.pow10Tab := by
 obtain⟨t,f,a⟩:=h.QJ;unfold Lib.TabIs World.var?;rw[oX];simp only[Option.bind_some,a]
theorem DY(w:World)(os:Array Obj):K_ w (Go.Sort.grow w os) :=
 ⟨rfl,rfl,rfl,by show w.heap.size<=(w.heap++os).size;simp,fun k a _=>by show(w.heap++os)[k]?=_;rw[Array.getElem?_append_left a]⟩
theorem th{w w':World}(h:Below w.heap.size w w'):K_ w w':=⟨h.os,h.tape,h.output,h.size,fun k a _=>h.block k a⟩
theorem Bq(n:Int)(a : -9223372036854775808<=n)(b:n<=9223372036854775807)(w:World)(h:xM w):Calls prog 67 #[I_ n,I_ 10] w fun e w'=>e=.returned (S_ (Lib.itoa n))/\K_ w w' :=
 (strconv_FormatInt_10 n a b w h.TJ).mono fun e w' ⟨c,k,os,d⟩=>⟨c,d ▸ (cq.drewN _ _ _).trans (DY _ _)⟩
end Go.Proofs.dS
