/- OuterCallsCardSaid is proved: a definition of any numbers that is made by calls is what its text makes, what is kept comes back when it fails, and a word that the reader is given more is done and may read on; the arguments read as they did. The library's listed variables hold what their text lays (the card ties them). -/
import Derived.Test.YthhfkhhhclmimaaGreatDoorM41
import Derived.Test.YthhfkhhhclmimaaGreatDoorM49
import Derived.Test.YthhfkhhhclmimaaGreatDoorM53
import Derived.Test.YthhfkhhhclmimaaGreatDoorCards
import Derived.Test.YthhfkhhhclmimaaGreatDoorTie
import Derived.OpenShut
set_option linter.unusedVariables false
set_option linter.unusedSimpArgs false
namespace Go.Proofs.YthhfkhhhclmimaaGreatDoor.lawOuterCalls
open Go.ChangeShapes Go.WideShapes Go.ChangeAt Go.RowKit Go.Deep
open Go.Proofs.Shed Go.Proofs.K Go.ChangeMaps
theorem laidOut:laidOutB Tryz.prog=true:=by kernel_rfl
theorem list_of {α:Type} (n:Nat) (p:Nat→α→Prop) (h:∀ i,i<n→∃ x,p i x):∃ l:List α,l.length=n∧∀ i (hi:i<l.length),p i l[i]:=by
 induction n with
 | zero=>exact ⟨[],rfl,fun i hi=>by simp at hi⟩
 | succ n ih =>
  obtain ⟨l,hl,hp⟩:=ih fun i hi=>h i (by omega)
  obtain ⟨x,hx⟩:=h n (by omega)
  refine ⟨l++[x],by simp [hl],fun i hi=>?_⟩
  by_cases hin:i<l.length
  · rw [List.getElem_append_left hin];exact hp i hin
  · have:i=n:=by simp at hi;omega
    subst this;rw [List.getElem_append_right (by omega)]
    simpa [hl] using hx
theorem i64_bd {n:Int} (w:(Lit.int .i64 n).wf=true):C17.in64 n:=by
 simp only [Lit.wf,Bool.and_eq_true,decide_eq_true_eq] at w
 have e0:IntKind.i64.min = -9223372036854775808:=rfl;have e1:IntKind.i64.max=9223372036854775807:=rfl;rw [e0,e1] at w;exact w
theorem ints_in {H:Type} {enc:TypeId × Value→H} {W:World} {a:Option Addr} {n c:Nat} {d:DataW H} {p:List MemPlace} (h:DataW.Trod enc Tryz.prog W 0 (fun _=>true) true 22 (.slice a n c) d p) (hw:(d.weights Tryz.prog 22).all (·≤reachBytes)=true) :
 ∃ L:List Int,L.length=n∧ArgI W a L∧(∀ z ∈ L,C17.in64 z)∧n≤4611686018427387904:=by
 obtain ⟨fuel,hf⟩:=h
 rcases open_ints Tryz.underlying22 Tryz.underlying2 (by kernel_rfl) hf with ⟨hcs,_⟩ | ⟨ad,l,c',zs,hcs,_,hl,hm,hmm,hx,hi,hwf⟩
 · simp [Value.cells] at hcs
   obtain ⟨rfl,rfl,rfl⟩:=hcs;exact ⟨[],rfl,fun i hi=>by simp at hi,(fun x hx=>by cases hx),Nat.zero_le _⟩
 · simp [Value.cells] at hcs
   obtain ⟨rfl,rfl,rfl⟩:=hcs;simp only [if_true] at hmm
   obtain ⟨rfl,rfl⟩:=Prod.mk.inj hx;have hb:Tryz.prog.bytesOf 2=8:=by kernel_rfl
   rw [DataW.weights] at hw;simp only [Tryz.underlying22,hb,List.all_cons,Bool.and_eq_true,decide_eq_true_eq] at hw
   have hw1:=hw.1;have hr:reachBytes=140737488351232:=rfl;rw [hr] at hw1;have hlen:(lits (H:=H) .i64 (zs.take n)).length=n:=by unfold lits;rw [List.length_map,List.length_take];omega
   rw [hlen] at hw1;have hn2:(zs.take n).length=n:=by rw [List.length_take];omega
   refine ⟨zs.take n,hn2,fun i hin=>?_,fun z hz=>i64_bd (hwf z (List.mem_of_mem_take hz)),by omega⟩
   rw [hn2] at hin;have c1:=hi i (by omega)
   obtain ⟨b,o,sp⟩:=ad;have hsp:sp=none:=by simpa [Addr.add] using World.cell?_spot (hi 0 (by omega))
   subst hsp;rw [Addr.add_lit] at c1;refine ⟨b,o,rfl,?_⟩;rw [c1,List.getElem_take,List.getD_eq_getElem?_getD,List.getElem?_eq_getElem (by omega)]
   rfl
theorem glo_of {w:World} (h:w.ShapedOpen Tryz.prog) (hl:laidMetH Tryz.prog Rows.outerCallsRow.laid w):Glo w:=by
 have hl : laidMet Tryz.prog [("math/bits.deBruijn32tab", Rows.laid_math_bits_deBruijn32tab), ("math/bits.deBruijn64tab", Rows.laid_math_bits_deBruijn64tab), ("internal/strconv.uint64pow10", Rows.laid_internal_strconv_uint64pow10)] w := hl
 obtain ⟨v,f,hh⟩:=row_of_shape (g:=3) (t:=147) (zero:=#[.nilIface]) h (of_decide_eq_true (by kernel_rfl)) (by kernel_rfl) rfl
 exact ⟨laid_tab hl.tail.tail,glob_most h,lt_of_heap hh⟩
theorem laid_met3 (os:Os) (args:Array Value):laidMetH Tryz.prog Rows.outerCallsRow.laid ((laidWorld os).forCall (fun _ _=>0) ⟨#[],args,[]⟩).memory :=
 show laidMet _ _ _ from laidMet_of_run' 8 (by kernel_rfl) (by kernel_rfl)
theorem walk (W:World) (a:Option Addr) (n c:Nat) (nm:List UInt8) (hnm:nm.length≤4611686018427387904) (fails:Bool) (hg:Glo W) (h1:∃ L:List Int,L.length=n∧ArgI W a L∧(∀ z ∈ L,C17.in64 z)∧n≤4611686018427387904) :
 Calls Tryz.prog 5 #[.slice a n c,.string ⟨nm.toArray⟩,.bool fails] W fun e w'=>e=.returned (.bool true)∧Below W.heap.size W w':=by
 obtain ⟨L,rfl,hS,hb,hn⟩:=h1;exact (calls17 W hg a c L hS hb hn nm hnm fails).mono fun e w' h=>⟨h.1,h.2.below (Nat.le_refl _) (fun _ _ h=>h)⟩
set_option maxRecDepth 100000 in
theorem lifted (os:Os) (started:os.Started) (H:Type) (enc:TypeId × Value→H) :
 ReturnsInLeavingWide {} Tryz.checked os 5 .any (fun w args=>(Rows.outerCallsSpec.pre enc Tryz.prog Tryz.f5 [] false w args∧laidMetH Tryz.prog Rows.outerCallsRow.laid w)∧sizedMet enc Tryz.prog Tryz.f5 (OpenSpec.ofChange Rows.outerCallsSpec) false w args)
  (Rows.outerCallsSpec.post enc Tryz.prog Tryz.f5 false true false false):=by
 refine returnsLeaving_of_change (C:=Tryz.checked) (X:=fun w _=>laidMetH Tryz.prog Rows.outerCallsRow.laid w) (fun _ _ _ hh h=>h.of_heap hh) own_knob started (by kernel_rfl) Tryz.func5
  (ChangeSpec.witness_at (enc:=enc) (C:=Tryz.checked) (os:=os) (X:=fun w _=>laidMetH Tryz.prog Rows.outerCallsRow.laid w) false (laidWorld os) #[.slice none 0 0,.string ⟨#[]⟩,.bool false] 8 rfl (by kernel_rfl) (by kernel_rfl) (by kernel_rfl) (by kernel_rfl) (by kernel_rfl) (laid_met3 os _)) ?_
 intro W base args ds gs before hsh hval0 hW hcnd hsz0 hL;have hval:∀ (j:Nat) t v,Tryz.f5.params[j]?=some t→args[j]?=some v→Value.okWide Tryz.prog W .any base t v:=hval0;have hW':=hW;obtain ⟨p,q,hA0,hV,rfl,hfz,hnd⟩:=hW;have hA:DataW.TrodAll enc Tryz.prog W 0 (fun _=>true) true Tryz.f5.params.toList args.toList ds p:=hA0
 have hsz:(DataW.weightsEach Tryz.prog (Tryz.f5.params.toList++[]) (ds++gs)).all (·≤reachBytes)=true:=hsz0;rw [Tryz.params5] at hA hval hsz;obtain ⟨v0,vs0,d0,ds0,p0,q0,hargs,rfl,rfl,h0,r0⟩:=trodAll_cons hA;obtain ⟨v1,vs1,d1,ds1,p1,q1,rfl,rfl,rfl,h1,r1⟩:=trodAll_cons r0;obtain ⟨v2,vs2,d2,ds2,p2,q2,rfl,rfl,rfl,h2,r2⟩:=trodAll_cons r1;obtain ⟨rfl,rfl,rfl⟩:=trodAll_nil r2;obtain rfl:args=#[v0,v1,v2]:=by cases args;simp_all
 obtain ⟨rfl,rfl⟩:=trodVars_none hV;obtain ⟨a0,len0,cap0,rfl⟩:=okWide_slice Tryz.underlying22 (hval 0 22 v0 rfl rfl);obtain ⟨nm,rfl,rfl,rfl,w1⟩:=open_string Tryz.underlying9 (hval 1 9 v1 rfl rfl) h1;obtain ⟨fb,rfl,rfl,rfl⟩:=open_bool Tryz.underlying4 (hval 2 4 v2 rfl rfl) h2;have k0:=h0;have lt0:∀ x ∈ p0,x.block<W.heap.size:=by obtain ⟨m,hm⟩:=k0;exact DataW.trod_lt m _ _ _ hm
 have hsz2:(d0.weights Tryz.prog 22).all (·≤reachBytes)=true∧nm.data.toList.length≤140737488351232:=by
  have e:DataW.weightsEach Tryz.prog ([22,9,4]++[]) ([d0,.lit (.string nm.data.toList),.lit (.bool fb)]++[])=d0.weights Tryz.prog 22++([nm.data.toList.length]++([]++[])):=rfl;have h2:=e ▸ hsz;rw [List.all_append,Bool.and_eq_true] at h2;refine ⟨h2.1,?_⟩;have h3:=h2.2;simp only [List.append_nil,List.all_cons,List.all_nil,Bool.and_true,decide_eq_true_eq] at h3
  exact h3
 clear hA0 hval0;refine (walk W a0 len0 cap0 nm.data.toList (by omega) fb (glo_of hsh hL) (ints_in h0 hsz2.1)).mono fun e W' ⟨he,bel⟩=>?_
 subst he;exact ⟨_,rfl,_,_,_,[],_,[],hW',trodAll_mk1 (shut_bool Tryz.underlying4 _),(trodAll_cons_mk (Below.trod laidOut (by kernel_rfl) (of_decide_eq_true (by kernel_rfl)) k0 bel lt0) (trodAll_cons_mk (shut_string Tryz.underlying9 w1) (trodAll_cons_mk (shut_bool Tryz.underlying4 _) trodAll_mk0))),rfl,bel.frame _,fun h=>by cases h⟩
theorem over:Rows.OuterCallsSaid :=
 OpenClaim.holds_of_wide_leaving 5 Tryz.f5 rfl rfl rfl rfl rfl rfl rfl ⟨rfl,rfl,rfl,rfl,rfl⟩ rfl rfl rfl rfl rfl (by kernel_rfl) Tryz.func5 closed
  (of_decide_eq_true (by kernel_rfl)) (by unfold Func.isWrapper;first | (rw [if_pos (by decide +kernel)];kernel_rfl) | (rw [if_neg (by decide +kernel)];exact ⟨rfl,rfl⟩))
  (fun os started H enc _=>lifted os started H enc)
theorem proved:Rows.OuterCallsCardSaid :=
 holds_tied_goes .later [.data, .data, .data] true (true, "c8d7bac98332eda8b48885b3f91051c3db85ca661fcc5d769a619cd8733455d0") true
  over a8 outerCalls_row_tie rfl ⟨rfl,rfl⟩ (by kernel_rfl) rfl
  (fun f fn hf hfn=>by
    obtain rfl : f = 5 := Option.some.inj ((show Tryz.prog.funcNamed "shed/shedlaw17.OuterCalls" = some 5 by kernel_rfl).symm.trans hf) |>.symm
    obtain rfl:fn=Tryz.f5:=(Option.some.inj (Tryz.func5.symm.trans hfn)).symm
    exact ⟨by kernel_rfl,fun j t ht=>by
     rw [Tryz.params5] at ht;have hm:t ∈ [22,9,4]:=by simpa using Array.mem_of_getElem? ht
     have hall:([22,9,4].all fun u=>!Tryz.prog.wantsStandIn u)=true:=by kernel_rfl
     exact (show Tryz.prog.wantsStandIn t=false by simpa using List.all_eq_true.1 hall t hm)⟩)
  a9
#print axioms proved
end Go.Proofs.YthhfkhhhclmimaaGreatDoor.lawOuterCalls
