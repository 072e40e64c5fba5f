/- Of CallsG: WScrA. No condition. -/
import Derived.Test.YthhfkhhhclmimaaGreatDoorM39
import Derived.Test.YthhfkhhhclmimaaGreatDoorM31
import Derived.Test.YthhfkhhhclmimaaGreatDoorM08
set_option linter.unusedVariables false
set_option linter.unusedSimpArgs false
set_option maxRecDepth 10000
set_option maxHeartbeats 4000000
namespace Go.Proofs.Shed
open Go Go.RowKit Go.Proofs.K
structure Glo (w:World):Prop where
 tab:∃ t f,w.heap[0]?=some (.cells (Lib.pow10Tab.map fun z=>Value.int .u64 z).toArray t f)
 most:∃ m t f,w.heap[1]?=some (.cells #[.int .i64 m] t f)
 lt:4≤w.heap.size
theorem Glo.keeps {S:Nat→Prop} {w w':World} (h:Glo w) (k:Keeps S w w') (hS:∀ g,g<4→¬ S g):Glo w':=by
 obtain ⟨⟨t,f,h0⟩,⟨m,t1,f1,h1⟩,hl⟩:=h;exact ⟨⟨t,f,k.heap h0 (hS 0 (by decide))⟩,⟨m,t1,f1,k.heap h1 (hS 1 (by decide))⟩,Nat.le_trans hl k.size⟩
theorem Glo.keeps0 {w w':World} (h:Glo w) (k:Keeps (fun _=>False) w w'):Glo w':=h.keeps k (fun _ _=>id)
theorem glob_named0 : Tryz.prog.globalNamed "internal/strconv.uint64pow10" = some 0 := by kernel_rfl
theorem Glo.tabIs {w : World} (h : Glo w) : Lib.TabIs Tryz.prog w "internal/strconv.uint64pow10" .u64 Lib.pow10Tab := by
 obtain ⟨t,f,h0⟩:=h.tab;unfold Lib.TabIs World.var?;rw [glob_named0];simp only [Option.bind_some,h0]
theorem keeps_grow (w:World) (os:Array Obj):Keeps (fun _=>False) w (Go.Sort.grow w os) :=
 ⟨rfl,rfl,rfl,by show w.heap.size≤(w.heap++os).size;simp,fun k hk _=>by show (w.heap++os)[k]?=_;rw [Array.getElem?_append_left hk]⟩
theorem keeps_below {w w':World} (h:Below w.heap.size w w'):Keeps (fun _=>False) w w':=⟨h.os,h.tape,h.output,h.size,fun k hk _=>h.block k hk⟩
theorem str_format0 (n:Int) (h0 : -9223372036854775808≤n) (h1:n≤9223372036854775807) (w:World) (h:Glo w):Calls Tryz.prog 67 #[.int .i64 n,.int .i64 10] w fun e w'=>e=.returned (.string ⟨(Lib.itoa n).toArray⟩)∧Keeps (fun _=>False) w w' :=
 (Tryz.strconv_FormatInt_10 n h0 h1 w h.tabIs).mono fun e w' ⟨he,k,os,hw⟩=>⟨he,hw ▸ (Keeps.drewN _ _ _).trans (keeps_grow _ _)⟩
end Go.Proofs.Shed
