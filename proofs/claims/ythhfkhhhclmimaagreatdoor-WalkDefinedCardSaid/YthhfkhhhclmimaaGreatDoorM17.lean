/- A part of WalkG. No condition. -/
import Derived.Test.YthhfkhhhclmimaaGreatDoorM04
set_option linter.unusedVariables false
set_option linter.unusedSimpArgs false
open Go.Proofs.Tryz
set_option maxRecDepth 10000
set_option maxHeartbeats 4000000
namespace Go.Proofs.Ay
open Go Go.RowKit Go.Proofs.K
theorem uY(b:Bool)(w:World):Calls prog 412 #[.bool b] w fun e w'=>e=.returned (I_ (if b then -1 else 0))/\w=w':=by
 cases b;all_goals
  go_enter func412,ntmps412;go_wp2;go_ret;exact⟨rfl,rfl⟩
theorem Hj(w:World):Calls prog 427 #[I_ 1] w fun e w'=>e=.returned (.int .u64 1)/\w=w':=by
 go_enter func427,ntmps427;go_wp2;go_ret;exact⟨rfl,rfl⟩
theorem C7(w:World):Calls prog 410 #[I_ 1,I_ 1] w fun e w'=>e=.returned (.tuple #[I_ 1,I_ 0])/\K_ w w':=by
 go_enter func410,ntmps410;go_wp2_with fail;go_region
 all_goals
  go_wp2;go_ret2;exact⟨rfl,cq.drew _ _⟩
def l'(v:List UInt8):Bool:=v == [97,110,100] || v == [111,114] || v == [120,111,114] || v == [108,115,104,105,102,116] || v == [114,115,104,105,102,116] || v == [61] || v == [60,62] || v == [60] || v == [62] || v == [117,60] || v == [109,105,110] || v == [109,97,120]
def Az(v:List UInt8):Bool:=v == [43] || v == [45] || v == [42] || v == [47] || v == [109,111,100] || l' v
def s9(v:List UInt8):Bool:=v == [110,101,103,97,116,101] || v == [105,110,118,101,114,116] || v == [97,98,115] || v == [48,61] || v == [48,60] || v == [49,43] || v == [99,104,97,114,43] || v == [49,45] || v == [50,42] || v == [50,47] || v == [99,101,108,108,115] || v == [99,101,108,108,43] || v == [97,108,105,103,110,101,100]
theorem Hk(v:List UInt8)(w:World):Calls prog 411 #[S_ v,I_ 1,I_ 1] w fun e w'=>(∃ n:Int,e=.returned (.tuple #[I_ n,.bool (l' v)]))/\w=w':=by
 go_enter func411,ntmps411;go_wp2_with (first | (refine eD (Hj _) ?_) | (refine eD (uY _ _) ?_))
 all_goals first
  | (exfalso;simp_all;done)
  | (go_ret2;rw[show l' v=true by simp[l', *]];exact⟨⟨_,rfl⟩,rfl⟩)
  | (go_ret2;rw[show l' v=false by simp[l', *]];exact⟨⟨_,rfl⟩,rfl⟩)
theorem OQ(v:List UInt8)(w:World):Calls prog 319 #[S_ v,I_ 1,I_ 1] w fun e w'=>(∃ n c:Int,e=.returned (.tuple #[I_ n,I_ c,.bool (Az v)]))/\K_ w w':=by
 have b:=h_ fun w=>Hk v w;have a:Hid (Az v=(v == [43] || v == [45] || v == [42] || v == [47] || v == [109,111,100] || l' v)):=rfl;generalize l' v=p at b a;generalize Az v=q at a |-;go_enter func319,ntmps319;go_wp2_with (first | (refine(C7 _).mono ?_;rintro e g ⟨rfl,f⟩;have d:=f;clear f) | (refine(b.out _).mono ?_;rintro e g ⟨⟨n,rfl⟩,rfl⟩))
 all_goals first
  | (exfalso;simp_all;done)
  | (go_ret3;rw[show q=true by rw[a.out];simp[*]];exact⟨⟨_,_,rfl⟩,by first | exact d | exact cq.refl _ _⟩)
  | (go_ret3;rw[show q=p by rw[a.out];simp[*]];exact⟨⟨_,_,rfl⟩,by first | exact d | exact cq.refl _ _⟩)
theorem OR(v:List UInt8)(w:World):Calls prog 321 #[S_ v,I_ 1] w fun e w'=>(∃ n:Int,e=.returned (.tuple #[I_ n,.bool (s9 v)]))/\w=w':=by
 go_enter func321,ntmps321;go_wp2_with (first | (refine eD (uY _ _) ?_))
 all_goals first
  | (exfalso;simp_all;done)
  | (go_ret2;rw[show s9 v=true by simp[s9, *]];exact⟨⟨_,rfl⟩,rfl⟩)
  | (go_ret2;rw[show s9 v=false by simp[s9, *]];exact⟨⟨_,rfl⟩,rfl⟩)
end Go.Proofs.Ay
