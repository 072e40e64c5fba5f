/- A part of WalkG. No condition. -/
import Derived.Test.YthhfkhhhclmimaaGreatDoorM12
import Derived.Test.YthhfkhhhclmimaaGreatDoorM44
import Derived.Test.YthhfkhhhclmimaaGreatDoorRows
import Derived.Stop.LaidErr
set_option linter.unusedVariables false
set_option linter.unusedSimpArgs false
open Go.Proofs.Tryz
set_option maxRecDepth 10000
namespace Go.Proofs.dS
open Go Go.RowKit Go.Proofs.K Go.Proofs.YthhfkhhhclmimaaGreatDoor
theorem Mi:ownKnob prog.godebug=none:=by kernel_rfl
theorem rG{w:World}{g:Nat}{t:TypeId}{zero:Array Value}(h:w.ShapedOpen prog)(c:g<prog.globals.size)(b:((begin prog (fun _ _=>0) default).world.heap[g]?).bind Obj.row?=some (zero,t))(i:zero.size=1) :
 ∃ v f,w.heap[g]?=some (.cells #[v] t f):=by
 obtain⟨a,d,e,_⟩:=h.1 g zero t c b;obtain⟨l⟩:=a;match l,(show l.length=1 by rw[<- i];exact e)with
 | [v],_=>exact⟨v,_,d⟩
theorem PB{w:World}{n:String}{g:Nat}{a:Array Value}(b:prog.globalNamed n=some g)(h:w.var? prog n=some a):∃ t f,w.heap[g]?=some (.cells a t f):=by
 unfold World.var? at h;rw[b]at h;simp only[Option.bind_some]at h;split at h
 . rename_i c
   cases h;exact⟨_,_,c⟩
 . cases h
theorem Ij{w:World}(h:w.ShapedOpen prog):∃ m t f,w.heap[1]?=some (.cells #[I_ m] t f):=by
 obtain⟨v,f,b⟩:=rG (g:=1) (t:=3) (zero:=#[I_ 0]) h (of_decide_eq_true (by kernel_rfl)) (by kernel_rfl) rfl;obtain⟨m,a⟩:=Go.Proofs.cell_of_shapedOpen_int (g:=1) (t:=3) (zero:=#[I_ 0]) (k:=.i64) h (of_decide_eq_true (by kernel_rfl)) (by kernel_rfl) rfl (by kernel_rfl) (by kernel_rfl) (by kernel_rfl);simp only[World.cell?,b]at a;simp at a;subst a;exact⟨m,_,_,b⟩
theorem Mj{w : World}{r : List (String × DataW Unit)}(h : laidMet prog (("internal/strconv.uint64pow10", Rows.laid_internal_strconv_uint64pow10) :: r) w) : ∃ t f, w.heap[0]? = some (.cells (Lib.pow10Tab.map fun z => Value.int .u64 z).toArray t f) := by
 have a : Lib.TabIs prog w "internal/strconv.uint64pow10" .u64 Lib.pow10Tab := Lib.tabIs_of_head (t := 360) (e := 182) (n := 20) oX (by kernel_rfl) (by kernel_rfl) (by kernel_rfl) (by kernel_rfl) (by kernel_rfl) h;exact PB oX a
def Vd:ByteArray:={ data:=#[105,110,118,97,108,105,100,32,115,121,110,116,97,120] }
def Ve:ByteArray:={ data:=#[118,97,108,117,101,32,111,117,116,32,111,102,32,114,97,110,103,101] }
noncomputable def low:Nat:=(World.holding Tryz.prog default ⟨#[],#[],[]⟩).heap.size
def TK:Array Value:=#[.int .u8 0,.int .u8 1,.int .u8 28,.int .u8 2,.int .u8 29,.int .u8 14,.int .u8 24,.int .u8 3,.int .u8 30,.int .u8 22,.int .u8 20,.int .u8 15,.int .u8 25,.int .u8 17,.int .u8 4,.int .u8 8,.int .u8 31,.int .u8 27,.int .u8 13,.int .u8 23,.int .u8 21,.int .u8 19,.int .u8 16,.int .u8 7,.int .u8 26,.int .u8 12,.int .u8 18,.int .u8 6,.int .u8 11,.int .u8 5,.int .u8 10,.int .u8 9]
def TN:Array Value:=#[.int .u8 0,.int .u8 1,.int .u8 56,.int .u8 2,.int .u8 57,.int .u8 49,.int .u8 28,.int .u8 3,.int .u8 61,.int .u8 58,.int .u8 42,.int .u8 50,.int .u8 38,.int .u8 29,.int .u8 17,.int .u8 4,.int .u8 62,.int .u8 47,.int .u8 59,.int .u8 36,.int .u8 45,.int .u8 43,.int .u8 51,.int .u8 22,.int .u8 53,.int .u8 39,.int .u8 33,.int .u8 30,.int .u8 24,.int .u8 18,.int .u8 12,.int .u8 5,.int .u8 63,.int .u8 55,.int .u8 48,.int .u8 27,.int .u8 60,.int .u8 41,.int .u8 37,.int .u8 16,.int .u8 46,.int .u8 35,.int .u8 44,.int .u8 21,.int .u8 52,.int .u8 32,.int .u8 23,.int .u8 11,.int .u8 54,.int .u8 26,.int .u8 40,.int .u8 15,.int .u8 34,.int .u8 20,.int .u8 31,.int .u8 10,.int .u8 25,.int .u8 14,.int .u8 19,.int .u8 9,.int .u8 13,.int .u8 8,.int .u8 7,.int .u8 6]
def Br(h:Array Obj)(g:Nat)(cs:Array Value):Array Obj:=h.modify g fun
 | .cells _ t frozen=>.cells cs t frozen
 | o=>o
noncomputable def xN(os:Os):World :=
 let w0:=World.holding Tryz.prog os ⟨#[.cells #[.string Vd] 419,.cells #[.string Ve] 419],#[],[]⟩
 { w0 with heap:=Br (Br (Br (Br (Br w0.heap 0 (Lib.pow10Tab.map fun z=>Value.int .u64 z).toArray) 4 TK) 5 TN) 2 #[.iface 417 (cD low)]) 3 #[.iface 417 (cD (low+1))] }
end Go.Proofs.dS
