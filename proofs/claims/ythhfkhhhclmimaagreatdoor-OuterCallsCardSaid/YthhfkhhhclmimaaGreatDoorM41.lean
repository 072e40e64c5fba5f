/- Of CallsG: GlobG. No condition. -/
import Derived.Test.YthhfkhhhclmimaaGreatDoorM10
import Derived.Test.YthhfkhhhclmimaaGreatDoorM40
import Derived.Test.YthhfkhhhclmimaaGreatDoorRows
import Derived.Stop.LaidErr
set_option linter.unusedVariables false
set_option linter.unusedSimpArgs false
set_option maxRecDepth 10000
namespace Go.Proofs.Shed
open Go Go.RowKit Go.Proofs.K Go.Proofs.YthhfkhhhclmimaaGreatDoor
theorem own_knob:ownKnob Tryz.prog.godebug=none:=by kernel_rfl
theorem row_of_shape {w:World} {g:Nat} {t:TypeId} {zero:Array Value} (h:w.ShapedOpen Tryz.prog) (hg:g<Tryz.prog.globals.size) (h0:((begin Tryz.prog (fun _ _=>0) default).world.heap[g]?).bind Obj.row?=some (zero,t)) (hz:zero.size=1) :
 ∃ v f,w.heap[g]?=some (.cells #[v] t f):=by
 obtain ⟨cs,hh,hs,_⟩:=h.1 g zero t hg h0;obtain ⟨l⟩:=cs
 match l,(show l.length=1 by rw [← hz];exact hs) with
 | [v],_=>exact ⟨v,_,hh⟩
theorem var_row {w:World} {n:String} {g:Nat} {cs:Array Value} (hg:Tryz.prog.globalNamed n=some g) (h:w.var? Tryz.prog n=some cs):∃ t f,w.heap[g]?=some (.cells cs t f):=by
 unfold World.var? at h;rw [hg] at h;simp only [Option.bind_some] at h
 split at h
 · rename_i hh
   cases h
   exact ⟨_,_,hh⟩
 · cases h
theorem glob_most {w:World} (h:w.ShapedOpen Tryz.prog):∃ m t f,w.heap[1]?=some (.cells #[.int .i64 m] t f):=by
 obtain ⟨v,f,hh⟩:=row_of_shape (g:=1) (t:=3) (zero:=#[.int .i64 0]) h (of_decide_eq_true (by kernel_rfl)) (by kernel_rfl) rfl
 obtain ⟨m,hm⟩:=Go.Proofs.cell_of_shapedOpen_int (g:=1) (t:=3) (zero:=#[.int .i64 0]) (k:=.i64) h (of_decide_eq_true (by kernel_rfl)) (by kernel_rfl) rfl (by kernel_rfl) (by kernel_rfl) (by kernel_rfl)
 simp only [World.cell?,hh] at hm
 simp at hm
 subst hm;exact ⟨m,_,_,hh⟩
theorem laid_tab {w : World} {r : List (String × DataW Unit)} (h : laidMet Tryz.prog (("internal/strconv.uint64pow10", Rows.laid_internal_strconv_uint64pow10) :: r) w) : ∃ t f, w.heap[0]? = some (.cells (Lib.pow10Tab.map fun z => Value.int .u64 z).toArray t f) := by
 have ht : Lib.TabIs Tryz.prog w "internal/strconv.uint64pow10" .u64 Lib.pow10Tab := Lib.tabIs_of_head (t := 360) (e := 182) (n := 20) glob_named0 (by kernel_rfl) (by kernel_rfl) (by kernel_rfl) (by kernel_rfl) (by kernel_rfl) h
 exact var_row glob_named0 ht
def synS:ByteArray:={ data:=#[105,110,118,97,108,105,100,32,115,121,110,116,97,120] }
def rngS:ByteArray:={ data:=#[118,97,108,117,101,32,111,117,116,32,111,102,32,114,97,110,103,101] }
noncomputable def low:Nat:=(World.holding Tryz.prog default ⟨#[],#[],[]⟩).heap.size
def tab32:Array Value:=#[.int .u8 0,.int .u8 1,.int .u8 28,.int .u8 2,.int .u8 29,.int .u8 14,.int .u8 24,.int .u8 3,.int .u8 30,.int .u8 22,.int .u8 20,.int .u8 15,.int .u8 25,.int .u8 17,.int .u8 4,.int .u8 8,.int .u8 31,.int .u8 27,.int .u8 13,.int .u8 23,.int .u8 21,.int .u8 19,.int .u8 16,.int .u8 7,.int .u8 26,.int .u8 12,.int .u8 18,.int .u8 6,.int .u8 11,.int .u8 5,.int .u8 10,.int .u8 9]
def tab64:Array Value:=#[.int .u8 0,.int .u8 1,.int .u8 56,.int .u8 2,.int .u8 57,.int .u8 49,.int .u8 28,.int .u8 3,.int .u8 61,.int .u8 58,.int .u8 42,.int .u8 50,.int .u8 38,.int .u8 29,.int .u8 17,.int .u8 4,.int .u8 62,.int .u8 47,.int .u8 59,.int .u8 36,.int .u8 45,.int .u8 43,.int .u8 51,.int .u8 22,.int .u8 53,.int .u8 39,.int .u8 33,.int .u8 30,.int .u8 24,.int .u8 18,.int .u8 12,.int .u8 5,.int .u8 63,.int .u8 55,.int .u8 48,.int .u8 27,.int .u8 60,.int .u8 41,.int .u8 37,.int .u8 16,.int .u8 46,.int .u8 35,.int .u8 44,.int .u8 21,.int .u8 52,.int .u8 32,.int .u8 23,.int .u8 11,.int .u8 54,.int .u8 26,.int .u8 40,.int .u8 15,.int .u8 34,.int .u8 20,.int .u8 31,.int .u8 10,.int .u8 25,.int .u8 14,.int .u8 19,.int .u8 9,.int .u8 13,.int .u8 8,.int .u8 7,.int .u8 6]
def relay (h:Array Obj) (g:Nat) (cs:Array Value):Array Obj:=h.modify g fun
 | .cells _ t frozen=>.cells cs t frozen
 | o=>o
noncomputable def laidWorld (os:Os):World :=
 let w0:=World.holding Tryz.prog os ⟨#[.cells #[.string synS] 419,.cells #[.string rngS] 419],#[],[]⟩
 { w0 with heap:=relay (relay (relay (relay (relay w0.heap 0 (Lib.pow10Tab.map fun z=>Value.int .u64 z).toArray) 4 tab32) 5 tab64) 2 #[.iface 417 (.pointer (some ⟨low,0,none⟩))]) 3 #[.iface 417 (.pointer (some ⟨low+1,0,none⟩))] }
end Go.Proofs.Shed
