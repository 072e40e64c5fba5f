/- Of CallsG: WCtlB. No condition. -/
import Derived.Test.YthhfkhhhclmimaaGreatDoorM36
set_option linter.unusedVariables false
set_option linter.unusedSimpArgs false
set_option maxRecDepth 10000
set_option maxHeartbeats 4000000
namespace Go.Proofs.Shed
open Go Go.RowKit Go.Proofs.K
theorem close_empty (b o:Nat) (k:Int) (a:Option Addr) (c:Nat) (w:World) (h:RMk w b o a c []) :
 Calls Tryz.prog 373 #[.pointer (some ⟨b,o,none⟩),.int .i64 k] w fun e w'=>e=.returned (.tuple #[.int .i64 0,.int .i64 (-22)])∧∃ n,w'=w.drewN n:=by
 have h0:w.cell? ⟨b,o,none⟩=some (.slice a 0 c):=h.cell;clear h
 go_enter Tryz.func373,Tryz.ntmps373
 go_wp2
 go_quiet (fail)
 go_wp2
 go_ret2
 exact ⟨rfl,_,rfl⟩
theorem close_bad (b o:Nat) (k:Int) (a:Option Addr) (c:Nat) (l:List (Int × Int)) (k' at':Int) (w:World) (h:RMk w b o a c (l++[(k',at')])) (hk:k'≠k) (hl:l.length≤1000) :
 Calls Tryz.prog 373 #[.pointer (some ⟨b,o,none⟩),.int .i64 k] w fun e w'=>e=.returned (.tuple #[.int .i64 0,.int .i64 (-22)])∧∃ n,w'=w.drewN n:=by
 have h0:w.cell? ⟨b,o,none⟩=some (.slice a (l.length+1) c):=by have:=h.cell;simpa using this
 have hown:=h.own;rw [mkM_app] at hown
 obtain ⟨g,rfl⟩:∃ g,a=some ⟨g,0,none⟩:=by
  rcases hown.form with ⟨_,h,_⟩ | ⟨g,_,h,_⟩
  · simp at h
  · exact ⟨_,h⟩
 have hc:w.cell? ⟨g,l.length*2,none⟩=some (.int .i64 k'):=hown.cell (by rw [← mkM_len];simp)
 have hw:IntKind.i64.wrap (l.length:Int)=l.length:=IntWalk.i64_in _ (by omega)
 have hg:((l.length:Int)+1 == 0)=false:=by simp;omega
 have hg2:(0:Int)≤l.length:=by omega
 have hg3:(l.length:Int)<l.length+1:=by omega
 have hg4:(k' == k)=false:=by simpa using hk
 clear h hown hk
 go_enter Tryz.func373,Tryz.ntmps373
 go_wp2
 go_quiet (fail)
 go_wp2
 go_ret2
 exact ⟨rfl,_,rfl⟩
theorem close_post {w:World} {b o c g:Nat} {l:List (Int × Int)} {k at':Int} (h:RMk w b o (some ⟨g,0,none⟩) c (l++[(k,at')])) (hc:l.length+1≤c) (n:Nat) :
 (∃ c' n',((w.drewN n).setCell ⟨b,o,none⟩ (.slice (some ⟨g,0,none⟩) l.length c))=(w.drewN n').setCell ⟨b,o,none⟩ (.slice (some ⟨g,0,none⟩) l.length c')∧RMk ((w.drewN n).setCell ⟨b,o,none⟩ (.slice (some ⟨g,0,none⟩) l.length c)) b o (some ⟨g,0,none⟩) c' l)∧Keeps (fun j=>j=b) w ((w.drewN n).setCell ⟨b,o,none⟩ (.slice (some ⟨g,0,none⟩) l.length c)):=by
 have hk:Keeps (fun j=>j=b) w ((w.drewN n).setCell ⟨b,o,none⟩ (.slice (some ⟨g,0,none⟩) l.length c)) :=
  (Keeps.drewN _ w n).trans (Keeps.setCell _ _ _ (fun _=>rfl))
 refine ⟨⟨c,n,rfl,World.cell?_setCell_same _ _ _ (show (w.drewN n).cell? ⟨b,o,none⟩=_ from h.cell),frozen_set (show (w.drewN n).frozen? ⟨b,o,none⟩=_ from h.free),?_,h.ne,Nat.lt_of_lt_of_le h.lt hk.size⟩,hk⟩
 have hown:=h.own
 rcases hown.form with ⟨_,h,_⟩ | ⟨g',cur,hv,hh,h1,h2,h3,h4,h5⟩
 · simp at h
 · cases hv
   refine Own.keeps (w:=w) ⟨by rw [mkM_len],.inr ⟨g,c,cur,rfl,Nat.zero_le _,hh,by omega,h2,h3,?_⟩⟩ hk (fun g' hg' e=>?_)
   · rw [mkM_app] at h4
     have:=congrArg (List.take (l.length*2)) h4;rw [List.take_take] at this;rw [List.length_append,List.length_singleton,Nat.min_eq_left (by omega)] at this
     rw [this,← mkM_len,List.take_left]
   · exact h.ne (by rw [hg',e])
theorem close_ok (b o:Nat) (a:Option Addr) (c:Nat) (l:List (Int × Int)) (k at':Int) (w:World) (h:RMk w b o a c (l++[(k,at')])) (hl:l.length≤1000) :
 Calls Tryz.prog 373 #[.pointer (some ⟨b,o,none⟩),.int .i64 k] w fun e w'=>e=.returned (.tuple #[.int .i64 at',.int .i64 0])∧(∃ c' n,w'=(w.drewN n).setCell ⟨b,o,none⟩ (.slice a l.length c')∧RMk w' b o a c' l)∧Keeps (fun j=>j=b) w w':=by
 have h0:w.cell? ⟨b,o,none⟩=some (.slice a (l.length+1) c):=by have:=h.cell;simpa using this
 have hf:=h.free;have hown:=h.own;rw [mkM_app] at hown
 obtain ⟨g,rfl⟩:∃ g,a=some ⟨g,0,none⟩:=by
  rcases hown.form with ⟨_,h,_⟩ | ⟨g,_,h,_⟩
  · simp at h
  · exact ⟨_,h⟩
 have hcap:l.length+1≤c:=by
  rcases hown.form with ⟨_,h,_⟩ | ⟨g,_,h,_,h',_⟩
  · simp at h
  · simpa using h'
 have hc:w.cell? ⟨g,l.length*2,none⟩=some (.int .i64 k):=hown.cell (by rw [← mkM_len];simp)
 have hc2:w.cell? ⟨g,l.length*2+1,none⟩=some (.int .i64 at'):=hown.cell (by rw [← mkM_len];simp)
 have hw:IntKind.i64.wrap (l.length:Int)=l.length:=IntWalk.i64_in _ (by omega)
 have hg:((l.length:Int)+1 == 0)=false:=by simp;omega
 have hg2:(0:Int)≤l.length:=by omega
 have hg3:(l.length:Int)<l.length+1:=by omega
 have H:=h_ h;clear h hown
 go_enter Tryz.func373,Tryz.ntmps373
 go_wp2
 go_quiet (fail)
 go_wp2
 go_quiet (fail)
 go_wp2
 go_region
 go_wp2
 go_ret2
 exact ⟨rfl,close_post H.out hcap _⟩
end Go.Proofs.Shed
