/- A part of WalkG. No condition. -/
import Derived.Conc.Holds
import Derived.ProofKit
import Derived.SizedLaws
import Derived.SevenTiedAt
set_option linter.unusedVariables false
set_option linter.unusedSimpArgs false
namespace Go.Proofs.K
open Go Go.Conc
theorem sw(P:Program)(fr:Frame)(w:World):(lone fr [] w).OnlyLeaving P:=⟨fun g hg=>by simp[lone]at hg,rfl⟩
theorem tL(P:Program)(fr:Frame)(w:World)(t:Trace):(lone fr [] w).EndHearing P t:=fun i g hg hi=>by
 cases i with
 | zero=>exact absurd rfl hi
 | succ k=>simp[lone]at hg
theorem mS{a:Assume}{C:Checked}{os:Os}{f:FuncId}{r:Reach}{Pre:World->Array Value->Prop}{Post:World->Array Value->Value->World->Prop}
 (own:ownKnob C.prog.godebug=none) (started:os.Started) (noInit:C.prog.inits.idxOf? f=none)
 (witness:∃ (w:World) (tape:Tape) (i:Input),w.os=os/\(w.forCall tape i).Shaped C.prog/\i.vars=[]/\Input.okWide C.prog (w.forCall tape i) r w.heap.size f i/\Pre (w.forCall tape i).memory i.args /\
   a.holds C.prog (lone (Frame.enter C.prog f i.args .normal) [] (w.forCall tape i)))
 (contract:∀ (w:World) (tape:Tape) (i:Input),w.os=os->(w.forCall tape i).ShapedOpen C.prog->i.vars=[]->Input.okWide C.prog (w.forCall tape i) r w.heap.size f i->Pre (w.forCall tape i).memory i.args ->
   a.holds C.prog (lone (Frame.enter C.prog f i.args .normal) [] (w.forCall tape i)) ->
   Calls C.prog f i.args (w.forCall tape i) fun
    | .returned v,w'=>Post (w.forCall tape i).blind i.args v w'.blind
    | _,_=>False) :
 ReturnsInLeavingWide a C os f r Pre Post:=fun enter=>by
 obtain⟨w0,t0,i0,a1,a2,a3,a4,a5,a6⟩:=witness;refine⟨enter,own,started,⟨w0,t0,i0,a1,a2,a3,a4,a5,a6,trivial⟩,fun w tape i h=>?_⟩
 obtain⟨n,v,w',fr,hn,hend,hp⟩:=(contract w tape i h.1 h.2.1 h.2.2.1 h.2.2.2.1 h.2.2.2.2.1 h.2.2.2.2.2.1).done_lone noInit;exact⟨n+1,v,w',hend,(clean_of_lone hn).2,roomy_placeholder ..,hp,⟨n,_,hn,step_of_runs hn hend,handedOver_of_lone hn,sw _ _ _,tL _ _ _ _⟩,fun _ _ _=>trivial⟩
theorem mA{H:Type}{enc:TypeId × Value->H}{a:Assume}{C:Checked}{os:Os}{f:FuncId}{fn:Func}{s:ChangeSpec}{conds:List PathCond}{apart fresh handsOn again:Bool}{X:World->Array Value->Prop}
 (hX:∀ (w w':World) (args:Array Value),w.heap=w'.heap->X w args->X w' args)
 (own:ownKnob C.prog.godebug=none) (started:os.Started) (noInit:C.prog.inits.idxOf? f=none) (hfn:C.prog.funcs[f]?=some fn)
 (witness:∃ (w:World) (tape:Tape) (i:Input),w.os=os/\(w.forCall tape i).Shaped C.prog/\i.vars=[]/\Input.okWide C.prog (w.forCall tape i) .any w.heap.size f i /\
   ((s.pre enc C.prog fn conds apart (w.forCall tape i).memory i.args/\X (w.forCall tape i).memory i.args)/\sizedMet enc C.prog fn (OpenSpec.ofChange s) apart (w.forCall tape i).memory i.args)/\a.holds C.prog (lone (Frame.enter C.prog f i.args .normal) [] (w.forCall tape i)))
 (contract:∀ (W:World) (dD:Nat) (args:Array Value) (ds gs:List (DataW H)) (before:List MemPlace),W.ShapedOpen C.prog ->
   (∀ (j:Nat) t v,fn.params[j]?=some t->args[j]?=some v->Value.okWide C.prog W .any dD t v) ->
   DataW.Whole enc C.prog fn.params.toList s.vars apart W args.toList ds gs before ->
   conds.all (PathCond.test C.prog ⟨fn.params.toList,ds,s.plain.varTypes C.prog,gs⟩)=true ->
   (DataW.weightsEach C.prog (fn.params.toList++s.plain.varTypes C.prog) (ds++gs)).all (·<=reachBytes)=true->X W args ->
   Calls C.prog f args W fun e W'=>∃ v,e=.returned v/\s.post enc C.prog fn apart fresh handsOn again W args v W') :
 ReturnsInLeavingWide a C os f .any (fun w args=>(s.pre enc C.prog fn conds apart w args/\X w args)/\sizedMet enc C.prog fn (OpenSpec.ofChange s) apart w args) (s.post enc C.prog fn apart fresh handsOn again):=by
 refine mS own started noInit witness ?_;intro w tape i _ hsh _ hok hpre hholds;obtain⟨_,_,_,fn',hfn',_,_,_,_,hval⟩:=hok;have e:fn'=fn:=Option.some.inj (hfn'.symm.trans hfn);subst e;obtain⟨⟨⟨ds,gs,before,hw,hc⟩,hx⟩,hz⟩:=hpre;have hw':=DataW.Whole.of_heap (w':=w.forCall tape i) (by rfl) hw
 refine(contract (w.forCall tape i) w.heap.size i.args ds gs before hsh hval hw' hc (hz.weights hw) (hX _ _ _ (by rfl) hx)).mono fun e W' ⟨v,he,hp⟩=>?_
 subst he;exact ChangeSpec.post_blind hp
theorem tM(Lk:Looks){p:Pinned}{s:OpenSpec}{c:OpenClaim}(kinds:List LaidKind)(tests:Bool)(har:Bool × String)(lk:Bool)
 (hc:c.holds p s) (hw:c.wfByText s=true) (htie:c.laidByTextAt Lk p kinds tests)
 (hst:c.start=.entering) (hnb:c.noBlocks=false/\c.again=false) (hm:p.checked.prog.mainIs=some (har.1,har.2.toList)) (hn:(!har.1 && har.2.isEmpty && !lk)=false)
 (hl:∀ f fn,p.checked.prog.funcNamed c.func=some f->p.checked.prog.funcs[f]?=some fn->lk=p.checked.prog.looks []/\∀ (j:Nat) t,fn.params[j]?=some t->p.checked.prog.wantsStandIn t=false)
 (hg:true=c.goesBy p.checked.prog) :
 Claim7.holds p (.plain s) { stood:={ row:=c,standIns:=[],harness:=har,looks:=lk },kinds:=[],alts:=[],goes:=true,laidByText:=true,laidKinds:=kinds,laidTests:=tests,laidLooks:=Lk }:=by
 have h6:Claim7.isSixth { stood:={ row:=c,standIns:=[],harness:=har,looks:=lk },kinds:=[] }=false:=by simpa[Claim7.isSixth] using hn
 exact⟨Claim7.tied_new_at Lk kinds tests (Claim7.new_of_sixth hc har lk hst hnb hm h6 hl) hw,fun D hD=>(by cases hD),htie,(fun h=>by cases h),hg⟩
end Go.Proofs.K
