/- Of CallsG: CalQ, CalR, CalS, CalT, CalU, WCalA, WCalC, WCalD, WCalE, WCalF, WCalH. No condition. -/
import Derived.Test.YthhfkhhhclmimaaGreatDoorM47
set_option linter.unusedVariables false
set_option linter.unusedSimpArgs false
set_option maxRecDepth 100000
set_option maxHeartbeats 4000000
namespace Go.Proofs.Shed
open Go.RowKit Go.Proofs.Cod
namespace C17
def rb (l:List Int) (s:List UInt8) (a:Nat) (f:Int):Rd:={ ra l with src:=s,at_:=a,v:={ (ra l).v with fuel:=f },open_:=w1 }
theorem agree_x1 (l:List Int):Mem.Agree x1.mem (Sp.cells l x1).mem 2864:=cells_agree l x1 2864 (by rw [x1_is.1];decide)
theorem plain_x1 (l:List Int):((Sp.cells l x1).mem.words 24).all (fun w=>!Num.numeric w.name)=true:=by
 rw [Mem.words_agree (agree_x1 l) 24 (by decide) below1]
 exact plain1
theorem base_x1 (l:List Int):(Sp.cells l x1).mem.cell 16=(10,0):=by
 rw [Mem.cell_agree (agree_x1 l) 16 (by decide)]
 exact base1
theorem commas_rb (l k:List Int) (s:List UInt8) (a:Nat) (f:Int) (h:l.length+k.length≤1000):Rd.commas k (rb l s a f)=(rb (l++k) s a f,0):=by
 have hr:(rb l s a f).v.x.Room k.length:=Sp.cells_room l (room1 (l.length+k.length) h);rw [commas_room k (rb l s a f) hr]
 show (({ rb l s a f with v:={ (rb l s a f).v with x:=Sp.cells k (Sp.cells l x1) } }:Rd),(0:Int))=_
 rw [← Sp.cells_append];rfl
def join:List Int→List UInt8
 | []=>[]
 | [n]=>Num.show_ n 10
 | n :: m :: l=>Num.show_ n 10++32 :: join (m :: l)
def tail (l:List Int):List UInt8:=l.flatMap fun n=>32 :: Num.show_ n 10
def text (l:List Int):List UInt8:=58 :: 32 :: 119 :: tail l
theorem tail_join (n:Int) (l:List Int):tail (n :: l)=32 :: join (n :: l):=by
 induction l generalizing n with
 | nil=>unfold tail;simp [join]
 | cons m l ih =>
  have e:tail (n :: m :: l)=32 :: (Num.show_ n 10++tail (m :: l)):=by unfold tail;rw [List.flatMap_cons];rfl
  rw [e,ih m];rfl
def in64 (n:Int):Prop := -9223372036854775808≤n∧n≤9223372036854775807
theorem read_nums:∀ (m:List Int) (l:List Int) (s:List UInt8) (a k:Nat) (f:Int),(∀ n ∈ m,in64 n)→s.drop a=join m→(m.length:Int)≤f→l.length+2*m.length≤900 →
 ∃ a',E0.readN (k+m.length+1) ((rb l s a f,()),0)=((rb (l++nums m) s a' (f-m.length),()),0)∧s.drop a'=[]
 | [],l,s,a,k,f,_,hs,_,_=>by
  have hw:=Src.word_none s a hs;refine ⟨a,?_,hs⟩;have h1:(rb l s a f).nextW=[]:=by show (Src.word s a).1=[];rw [hw]
  rw [show k+([]:List Int).length+1=k+1 from rfl,read_end k (rb l s a f) 0 rfl h1]
  have h2:(rb l s a f).next=rb l s a f:=by show ({ rb l s a f with at_:=(Src.word s a).2 }:Rd)=_;rw [hw];rfl
  rw [h2];have e:nums []=[]:=rfl;rw [e,List.append_nil,List.length_nil]
  show ((rb l s a f,()),(0:Int))=((rb l s a (f-0),()),0)
  rw [Int.sub_zero]
 | n :: m,l,s,a,k,f,hm,hs,hf,hl=>by
  have hn:=hm n (by simp)
  have hsol:=numeric_solid (Num.show_numeric n hn.1 hn.2)
  obtain ⟨a1,hw,hd⟩:∃ a1,Src.word s a=(Num.show_ n 10,a1)∧s.drop a1=join m:=by
   cases m with
   | nil=>exact ⟨_,Src.word_last s _ a hsol hs⟩
   | cons p m=>exact ⟨_,Src.word_mid s _ _ a hsol hs⟩
  rw [List.length_cons] at hf hl;have h1:(rb l s a f).nextW=Num.show_ n 10:=by show (Src.word s a).1=_;rw [hw]
  have h2:({ (rb l s a f).next with v:={ (rb l s a f).v with fuel:=(rb l s a f).v.fuel-1 } }:Rd)=rb l s a1 (f-1):=by
   show ({ rb l s a f with at_:=(Src.word s a).2,v:={ (rb l s a f).v with fuel:=f-1 } }:Rd)=_
   rw [hw];rfl
  have h3:(rb l s a1 (f-1)).own (Num.show_ n 10)=(rb (l++[tok [108,105,116],n]) s a1 (f-1),0):=by
   rw [own_number _ n hn.1 hn.2 24 rfl (by show ((Sp.cells l x1).mem.cell 16).1=10;rw [base_x1]) (plain_x1 l)]
   unfold Rd.literal;rw [if_pos (show (rb l s a1 (f-1)).comp=true from rfl)]
   exact commas_rb l [tok [108,105,116],n] s a1 (f-1) (by simp;omega)
  have hne:Num.show_ n 10≠[]:=fun e=>by rw [e] at hsol;cases hsol
  rw [show k+(n :: m).length+1=(k+m.length+1)+1 by rw [List.length_cons];omega]
  rw [read_step (k+m.length+1) (rb l s a f) 0 rfl (by rw [h1];exact hne) (show ¬ f≤0 by omega) (rb (l++[tok [108,105,116],n]) s a1 (f-1),0) (by rw [h1,h2,h3]),if_pos rfl]
  obtain ⟨a',q1,q2⟩:=read_nums m (l++[tok [108,105,116],n]) s a1 k (f-1) (fun x hx=>hm x (by simp [hx])) hd (by omega) (by simp;omega)
  refine ⟨a',?_,q2⟩;rw [q1];have e1:l++[tok [108,105,116],n]++nums m=l++nums (n :: m):=by rw [List.append_assoc];rfl
  rw [e1,List.length_cons];have e2:f-1-(m.length:Int)=f-((m.length+1:Nat):Int):=by omega
  rw [e2]
end C17
namespace C17
theorem make_gen (r:Rd) (hx:r.v.x=x0):r.make 24 [119] 1001 2 []=({ r with v:={ r.v with x:=x1 },last:=w1 },w1,0):=by
 have h:r.v.x.create 24 [119] 2 1001=(x1,w1,0):=by rw [hx];exact create_is
 have h2:r.made2 24 [119] 1001 2 []=({ r with v:={ r.v with x:=x1 } },0):=by
  unfold Rd.made2 Rd.made;rw [h,if_neg (by simp)]
  rfl
 unfold Rd.make;rw [h2,if_neg (by simp),h]
theorem own_colon (r:Rd):r.own [58]=r.colon:=by
 have e:K_words (lower [58])=some (.plain 217):=by decide +kernel
 unfold Rd.own;rw [e];rfl
theorem colon_is (r:Rd) (a:Nat) (hx:r.v.x=x0) (hl:r.v.list=24) (hc:r.comp=false) (hi:r.is=false) (hw:Src.word r.src r.at_=([119],a)) :
 r.colon=({ r with here:=x0.here,list:=(x0.mem.cell 24).1,is:=true,at_:=a,v:={ r.v with x:=x1 },last:=w1,open_:=w1,comp:=true,meth:=false,marks:=[] },0):=by
 have hk:r.keep={ r with here:=x0.here,list:=(x0.mem.cell 24).1,is:=true }:=by
  unfold Rd.keep;rw [if_neg (by rw [hi];simp)]
  show ({ r with here:=r.v.x.here,list:=(r.v.x.mem.cell r.v.list).1,is:=true }:Rd)=_
  rw [hx,hl]
 have hcr:r.keep.create 1001 2 []=({ r with here:=x0.here,list:=(x0.mem.cell 24).1,is:=true,at_:=a,v:={ r.v with x:=x1 },last:=w1 },w1,0):=by
  rw [hk];unfold Rd.create Rd.name;have hn:({ r with here:=x0.here,list:=(x0.mem.cell 24).1,is:=true }:Rd).nextW=[119]:=by show (Src.word r.src r.at_).1=_;rw [hw]
  have hx2:({ r with here:=x0.here,list:=(x0.mem.cell 24).1,is:=true }:Rd).next={ r with here:=x0.here,list:=(x0.mem.cell 24).1,is:=true,at_:=a }:=by
   show ({ r with here:=x0.here,list:=(x0.mem.cell 24).1,is:=true,at_:=(Src.word r.src r.at_).2 }:Rd)=_
   rw [hw]
  rw [hn,hx2,show Rd.badName [119]=false by decide]
  simp only [Bool.false_eq_true,if_false,ne_eq,not_true_eq_false]
  exact (congrArg (fun z=>({ r with here:=x0.here,list:=(x0.mem.cell 24).1,is:=true,at_:=a }:Rd).make z [119] 1001 2 []) hl).trans (make_gen _ hx)
 unfold Rd.colon;rw [if_neg (by rw [hc];simp),hcr,if_neg (by simp)]
 rfl
theorem text_is (l:List Int) (hl:l.length≤40) (h64:∀ n ∈ l,in64 n):∃ a',E0.read (text l) (r0,())=((rb (nums l) (text l) a' (499-l.length),()),0)∧(text l).drop a'=[]:=by
 unfold Ext.read;have hk:(r0,()).1.v.fuel.toNat+2=(500-l.length+l.length+1)+1:=by show (500:Int).toNat+2=_;omega
 rw [hk];have hw0:=(Src.word_mid (text l) [58] (119 :: tail l) 0 (by decide) rfl).1
 have hd0:=(Src.word_mid (text l) [58] (119 :: tail l) 0 (by decide) rfl).2
 obtain ⟨a1,hw1,hd1⟩:∃ a1,Src.word (text l) 2=([119],a1)∧(text l).drop a1=join l:=by
  cases l with
  | nil=>exact ⟨_,Src.word_last (text []) [119] 2 (by decide) rfl⟩
  | cons n m =>
   refine ⟨_,Src.word_mid (text (n :: m)) [119] (join (n :: m)) 2 (by decide) ?_⟩
   show 119 :: tail (n :: m)=[119]++32 :: join (n :: m)
   rw [tail_join];rfl
 have h1:(r0.again (text l)).nextW=[58]:=by show (Src.word (text l) 0).1=_;rw [hw0]
 have h2:({ (r0.again (text l)).next with v:={ (r0.again (text l)).v with fuel:=(r0.again (text l)).v.fuel-1 } }:Rd)={ r0 with src:=text l,at_:=2,v:={ vm with fuel:=499 } }:=by
  show ({ r0 with src:=text l,at_:=(Src.word (text l) 0).2,v:={ vm with fuel:=500-1 } }:Rd)=_
  rw [hw0];rfl
 have h3:({ r0 with src:=text l,at_:=2,v:={ vm with fuel:=499 } }:Rd).own [58]=(rb [] (text l) a1 499,0):=by
  rw [own_colon,colon_is _ a1 rfl rfl rfl rfl hw1];rfl
 rw [show ((r0,()).1.again (text l),(r0,()).2)=(r0.again (text l),()) from rfl]
 rw [read_step (500-l.length+l.length+1) (r0.again (text l)) 0 rfl (by rw [h1];simp) (by show ¬ (500:Int)≤0;decide) (rb [] (text l) a1 499,0) (by rw [h1,h2,h3]),if_pos rfl]
 obtain ⟨a',q1,q2⟩:=read_nums l [] (text l) a1 (500-l.length) 499 h64 hd1 (by omega) (by simp;omega)
 refine ⟨a',?_,q2⟩;rw [q1];rfl
theorem plus_rb (l:List Int) (s:List UInt8) (a:Nat) (f:Int) (hl:l.length≤40):(rb (nums l) s a f).compile [43] [5]=(rb (nums l++[tok [43],5]) s a f,0) :=
 commas_rb (nums l) (tok [43] :: [5]) s a f (by rw [nums_len];simp;omega)
def rbz (l:List Int) (f:Int):Rd:={ rb (body l) [59] 1 f with v:={ vm with x:=Y l,fuel:=f },comp:=false,here:=0,list:=0,is:=false }
theorem word59:Src.word [59] 0=([59],1):=by decide +kernel
theorem semi_is (l:List Int) (f:Int) (hl:l.length≤40):(rb (nums l++[tok [43],5]) [59] 1 f).semicolon=(rbz l f,0):=by
 unfold Rd.semicolon;rw [if_neg (show ¬ (rb (nums l++[tok [43],5]) [59] 1 f).meth=true from fun e=>by cases e)]
 have hs:(rb (nums l++[tok [43],5]) [59] 1 f).stop=({ rb (nums l++[tok [43],5]) [59] 1 f with comp:=false },0):=by
  unfold Rd.stop;rw [if_neg (by show ¬ (true=false∨([]:List (Int × Int))≠[]);simp)]
 have hb:∀ (q:Rd) (F:Rd→Rd × Int),Rd.bind (q,0) F=F q:=fun q F=>by unfold Rd.bind;rw [if_neg (by simp)]
 have hr:({ rb (nums l++[tok [43],5]) [59] 1 f with comp:=false }:Rd).v.x.Room [tok [101,120,105,116]].length:=Sp.cells_room (nums l++[tok [43],5]) (room1 _ (by rw [List.length_append,nums_len];simp;omega))
 have hc:({ rb (nums l++[tok [43],5]) [59] 1 f with comp:=false }:Rd).compile [101,120,105,116] []=({ rb (body l) [59] 1 f with comp:=false },0):=by
  show Rd.commas [tok [101,120,105,116]] _=_
  rw [commas_room _ _ hr]
  show (({ ({ rb (nums l++[tok [43],5]) [59] 1 f with comp:=false }:Rd) with v:={ (rb (nums l++[tok [43],5]) [59] 1 f).v with x:=Sp.cells [tok [101,120,105,116]] (Sp.cells (nums l++[tok [43],5]) x1) } }:Rd),(0:Int))=_
  rw [← Sp.cells_append];rfl
 rw [hs,hb,hc,hb];refine Prod.ext ?_ rfl
 show ({ rb (body l) [59] 1 f with comp:=false }:Rd).semiEnd=rbz l f
 unfold Rd.semiEnd;dsimp only;split
 · rfl
 · rename_i h;exact absurd rfl h
theorem end_is (l:List Int) (s:List UInt8) (a:Nat) (f:Int) (hl:l.length≤40) (hf:1≤f):∃ r,E0.read [59] (rb (nums l++[tok [43],5]) s a f,())=((r,()),0)∧r=rbz l (f-1):=by
 unfold Ext.read;have hk:((rb (nums l++[tok [43],5]) s a f,()).1.v.fuel.toNat+2)=f.toNat+1+1:=rfl;rw [hk];have e0:((rb (nums l++[tok [43],5]) s a f,()).1.again [59],(rb (nums l++[tok [43],5]) s a f,()).2)=(rb (nums l++[tok [43],5]) [59] 0 f,()):=rfl;rw [e0];have h1:(rb (nums l++[tok [43],5]) [59] 0 f).nextW=[59]:=by show (Src.word [59] 0).1=_;rw [word59]
 have h2:({ (rb (nums l++[tok [43],5]) [59] 0 f).next with v:={ (rb (nums l++[tok [43],5]) [59] 0 f).v with fuel:=(rb (nums l++[tok [43],5]) [59] 0 f).v.fuel-1 } }:Rd)=rb (nums l++[tok [43],5]) [59] 1 (f-1):=by
  show ({ rb (nums l++[tok [43],5]) [59] 0 f with at_:=(Src.word [59] 0).2,v:={ (rb (nums l++[tok [43],5]) [59] 0 f).v with fuel:=f-1 } }:Rd)=_
  rw [word59];rfl
 rw [read_step (f.toNat+1) (rb (nums l++[tok [43],5]) [59] 0 f) 0 rfl (by rw [h1];simp) (show ¬ f≤0 by omega) (rbz l (f-1),0) (by rw [h1,h2,own_semi,semi_is l (f-1) hl]),if_pos rfl]
 have h3:(rbz l (f-1)).nextW=[]:=by show (Src.word [59] 1).1=[];decide +kernel
 have h4:(rbz l (f-1)).next=rbz l (f-1):=by
  show ({ rbz l (f-1) with at_:=(Src.word [59] 1).2 }:Rd)=_
  rw [show Src.word [59] 1=([],1) by decide +kernel]
  rfl
 exact ⟨_,by rw [read_end f.toNat (rbz l (f-1)) 0 rfl h3],h4⟩
end C17
namespace Rd
def pushed (v:VM) (n:Int):VM:=(v.push [n]).1
theorem push_one (r:Rd) (n:Int) (hc:r.comp=false) (hd:r.v.d.depth<r.v.d.most):r.literal [n]=({ r with v:=pushed r.v n },0):=by
 unfold literal;rw [if_neg (by rw [hc];simp)]
 refine Prod.ext rfl ?_
 show (Stk.push r.v.x.mem r.v.d [n]).2.2=0
 unfold Stk.push;rw [if_neg (by simp;omega)]
theorem pushed_d (v:VM) (n:Int) (hd:v.d.depth<v.d.most):(pushed v n).d={ v.d with depth:=v.d.depth+1 }:=by
 show (Stk.push v.x.mem v.d [n]).2.1=_
 unfold Stk.push;rw [if_neg (by simp;omega),Stk.pushN_depth]
 rfl
theorem pushed_mem (v:VM) (n:Int) (hd:v.d.depth<v.d.most):(pushed v n).x.mem=(v.x.mem.setCell (v.d.from_+v.d.depth*8) n).1:=by
 show (Stk.push v.x.mem v.d [n]).1=_
 unfold Stk.push;rw [if_neg (by simp;omega)]
 show (v.x.mem.setCell (Stk.place { v.d with depth:=v.d.depth+1 } 0) n).1=_
 unfold Stk.place;simp only
 rw [show v.d.from_+(v.d.depth+1-1-0)*8=v.d.from_+v.d.depth*8 by omega]
end Rd
theorem read_gen {α:Type} (E:Ext α) (k:Nat) (r:Rd) (y:α) (last:Int) (ho:r.v.over=false) (hw:r.nextW≠[]) (hf:¬ r.v.fuel≤0) (p:Rd) (y':α)
 (hp:E.doIt r.nextW ({ r.next with v:={ r.v with fuel:=r.v.fuel-1 } },y)=((p,y'),0)) :
 E.readN (k+1) ((r,y),last)=E.readN k ((p,y'),last):=by
 rw [Ext.readN,if_neg (show ¬ ((r,y),last).1.1.v.over=true by show ¬ r.v.over=true;rw [ho];simp),if_neg (show ¬ ((r,y),last).1.1.nextW=[] from hw),if_neg (show ¬ ((r,y),last).1.1.v.fuel≤0 from hf)]
 show (if (E.doIt r.nextW ({ r.next with v:={ r.v with fuel:=r.v.fuel-1 } },y)).2=0 then E.readN k ((E.doIt r.nextW ({ r.next with v:={ r.v with fuel:=r.v.fuel-1 } },y)).1,last) else _)=_
 rw [hp,if_pos rfl]
theorem read_stop {α:Type} (E:Ext α) (k:Nat) (r:Rd) (y:α) (last:Int) (ho:r.v.over=false) (hw:r.nextW=[]):E.readN (k+1) ((r,y),last)=((r.next,y),last):=by
 rw [Ext.readN,if_neg (show ¬ ((r,y),last).1.1.v.over=true by show ¬ r.v.over=true;rw [ho];simp),if_pos (show ((r,y),last).1.1.nextW=[] from hw)]
theorem doIt_own {α:Type} (E:Ext α) (s:List UInt8) (r:Rd) (y:α) (p:Rd) (h:E.has (lower s)=false) (hp:r.own s=(p,0)):E.doIt s (r,y)=((p,y),0):=by
 unfold Ext.doIt;rw [if_neg (by rw [h];simp),hp]
 rfl
namespace C17
def xm:Mem:=(x1.mem.markWd 2832 0).1
theorem belowm:xm.below 2864 xm.size xm.size (xm.cell 24).1=true:=by decide +kernel
theorem plainm:(xm.words 24).all (fun w=>!Num.numeric w.name)=true:=by decide +kernel
theorem basem:xm.cell 16=(10,0):=by decide +kernel
theorem findm:xm.find [119] [24]=some ⟨2832,2856,0,[119]⟩:=by decide +kernel
theorem findM:xm.find [87] [24]=some ⟨2832,2856,0,[119]⟩:=by decide +kernel
theorem set_agree {m m':Mem} {H:Nat} (h:Mem.Agree m m' H) (a n:Int):Mem.Agree (m.setCell a n).1 (m'.setCell a n).1 H:=by
 unfold Mem.setCell;rw [Mem.at_agree h];split
 · refine ⟨h.size,fun i hi=>?_⟩
   rw [Mem.put_bit,Mem.put_bit];split
   · rfl
   · exact h.bit i hi
 · exact h
theorem mark_agree {m m':Mem} {H:Nat} (h:Mem.Agree m m' H) (a:Int) (hr:m'.readWd a=m.readWd a) (f:Int):Mem.Agree (m.markWd a f).1 (m'.markWd a f).1 H:=by
 unfold Mem.markWd;rw [hr];split
 · exact h
 · split
   · exact h
   · exact set_agree h _ _
theorem head_fits:2832+24+Mem.pad8 ((x1.mem.cell (2832+8)).1 % 256)≤2864:=by decide +kernel
theorem y_agree (l:List Int):Mem.Agree xm (Y l).mem 2864 :=
 mark_agree (agree_x1 (body l)) 2832 (Mem.readWd_agree (agree_x1 (body l)) 2832 head_fits) 0
structure Post (v:VM):Prop where
 agree:Mem.Agree xm v.x.mem 2864
 base:v.base=16
 list:v.list=24
 over:v.over=false
 from_:v.d.from_=12000
 most:v.d.most=60
 d0:0≤v.d.depth
theorem post_push {v:VM} (h:Post v) (hd:v.d.depth<60) (n:Int):Post (Rd.pushed v n):=by
 have hdm:v.d.depth<v.d.most:=by rw [h.most];exact hd
 refine ⟨?_,h.base,h.list,h.over,?_,?_,?_⟩
 · rw [Rd.pushed_mem v n hdm]
   refine h.agree.trans (Mem.agree_setCell _ _ _ _ ?_);rw [h.from_];have:=h.d0;omega
 · rw [Rd.pushed_d v n hdm];exact h.from_
 · rw [Rd.pushed_d v n hdm];exact h.most
 · rw [Rd.pushed_d v n hdm];have:=h.d0;show 0≤v.d.depth+1;omega
theorem post_fuel {v:VM} (h:Post v) (f:Int):Post { v with fuel:=f }:=⟨h.agree,h.base,h.list,h.over,h.from_,h.most,h.d0⟩
theorem post_plain {v:VM} (h:Post v):(v.x.mem.words 24).all (fun w=>!Num.numeric w.name)=true:=by
 rw [Mem.words_agree h.agree 24 (by decide) belowm]
 exact plainm
theorem post_base {v:VM} (h:Post v):v.baseN=10:=by
 show (v.x.mem.cell v.base).1=10
 rw [h.base,Mem.cell_agree h.agree 16 (by decide),basem]
theorem post_find {v:VM} (h:Post v):v.x.mem.find [119] [24]=some ⟨2832,2856,0,[119]⟩:=by
 rw [Mem.find_agree h.agree _ 24 (by decide) belowm]
 exact findm
theorem post_findM {v:VM} (h:Post v):v.x.mem.find [87] [24]=some ⟨2832,2856,0,[119]⟩:=by
 rw [Mem.find_agree h.agree _ 24 (by decide) belowm]
 exact findM
theorem num_post (r:Rd) (n:Int) (h0 : -9223372036854775808≤n) (h1:n≤9223372036854775807) (ho:r.ord=[24]) (hc:r.comp=false) (hv:Post r.v) (hd:r.v.d.depth<60):r.own (Num.show_ n 10)=({ r with v:=Rd.pushed r.v n },0):=by
 rw [own_number r n h0 h1 24 ho (post_base hv) (post_plain hv)];exact Rd.push_one r n hc (by rw [hv.most];exact hd)
def charT (nm:List UInt8):List UInt8:=[99,104,97,114]++32 :: (nm++32 :: [57])
theorem char_nine {α:Type} (E:Ext α) (he1:E.has [99,104,97,114]=false) (he2:E.has [57]=false) (k:Nat) (r:Rd) (y:α) (nm:List UInt8) (c:UInt8) (t:List UInt8) (hn:nm=c :: t) (hs:Src.solid nm=true)
 (ho:r.ord=[24]) (hc:r.comp=false) (hv:Post r.v) (hd:r.v.d.depth<50) (hf:2≤r.v.fuel) (hsrc:r.src.drop r.at_=charT nm) :
 ∃ a,E.readN (k+3) ((r,y),0)=(({ r with at_:=a,v:={ Rd.pushed (Rd.pushed r.v c.toNat) 9 with fuel:=r.v.fuel-2 } },y),0)∧r.src.drop a=[]:=by
 obtain ⟨w1,d1⟩:=Src.word_mid r.src [99,104,97,114] (nm++32 :: [57]) r.at_ (by decide) hsrc
 obtain ⟨w2,d2⟩:=Src.word_mid r.src nm [57] _ hs d1;obtain ⟨w3,d3⟩:=Src.word_last r.src [57] _ (by decide) d2
 generalize r.at_+[99,104,97,114].length+1=a1 at w1 w2 w3 d1 d2 d3;generalize a1+nm.length+1=a2 at w2 w3 d2 d3;generalize a2+[57].length=a3 at w3 d3;refine ⟨a3,?_,d3⟩;have h1:r.nextW=[99,104,97,114]:=by show (Src.word r.src r.at_).1=_;rw [w1]
 have h2:r.next={ r with at_:=a1 }:=by show ({ r with at_:=(Src.word r.src r.at_).2 }:Rd)=_;rw [w1]
 have hp1:E.doIt r.nextW ({ r.next with v:={ r.v with fuel:=r.v.fuel-1 } },y)=(({ r with at_:=a2,v:=Rd.pushed { r.v with fuel:=r.v.fuel-1 } c.toNat },y),0):=by
  rw [h1,h2];refine doIt_own E _ _ _ _ he1 ?_;rw [own_char];unfold Rd.char;have n1:({ r with at_:=a1,v:={ r.v with fuel:=r.v.fuel-1 } }:Rd).nextW=c :: t:=by show (Src.word r.src a1).1=_;rw [w2,hn]
  have n2:({ r with at_:=a1,v:={ r.v with fuel:=r.v.fuel-1 } }:Rd).next={ r with at_:=a2,v:={ r.v with fuel:=r.v.fuel-1 } }:=by
   show ({ r with at_:=(Src.word r.src a1).2,v:={ r.v with fuel:=r.v.fuel-1 } }:Rd)=_
   rw [w2]
  dsimp only at n1 n2 ⊢;rw [n1,n2];exact Rd.push_one _ _ hc (by show r.v.d.depth<r.v.d.most;rw [hv.most];omega)
 rw [read_gen E (k+2) r y 0 hv.over (by rw [h1];simp) (by omega) _ _ hp1]
 have hv1:Post (Rd.pushed { r.v with fuel:=r.v.fuel-1 } c.toNat):=post_push (post_fuel hv _) (by show r.v.d.depth<60;omega) _
 have hfu:(Rd.pushed { r.v with fuel:=r.v.fuel-1 } c.toNat).fuel=r.v.fuel-1:=rfl
 have hde:(Rd.pushed { r.v with fuel:=r.v.fuel-1 } c.toNat).d.depth=r.v.d.depth+1:=by
  rw [Rd.pushed_d _ _ (by show r.v.d.depth<r.v.d.most;rw [hv.most];omega)]
 have hcm:Rd.pushed { r.v with fuel:=r.v.fuel-1 } c.toNat={ Rd.pushed r.v c.toNat with fuel:=r.v.fuel-1 }:=rfl;generalize hV:Rd.pushed { r.v with fuel:=r.v.fuel-1 } c.toNat=V at hv1 hfu hde hcm ⊢;clear hV;have g1:({ r with at_:=a2,v:=V }:Rd).nextW=[57]:=by show (Src.word r.src a2).1=_;rw [w3]
 have g2:({ r with at_:=a2,v:=V }:Rd).next={ r with at_:=a3,v:=V }:=by show ({ r with at_:=(Src.word r.src a2).2,v:=V }:Rd)=_;rw [w3]
 have hp2:E.doIt ({ r with at_:=a2,v:=V }:Rd).nextW ({ ({ r with at_:=a2,v:=V }:Rd).next with v:={ V with fuel:=V.fuel-1 } },y)=(({ r with at_:=a3,v:=Rd.pushed { V with fuel:=V.fuel-1 } 9 },y),0):=by
  rw [g1,g2];refine doIt_own E _ _ _ _ he2 ?_;exact num_post ({ r with at_:=a3,v:={ V with fuel:=V.fuel-1 } }:Rd) 9 (by decide) (by decide) ho hc (post_fuel hv1 _) (by show V.d.depth<60;rw [hde];omega)
 rw [read_gen E (k+1) _ y 0 hv1.over (by rw [g1];simp) (by show ¬ V.fuel≤0;omega) _ _ hp2]
 have g3:({ r with at_:=a3,v:=Rd.pushed { V with fuel:=V.fuel-1 } 9 }:Rd).nextW=[]:=by show (Src.word r.src a3).1=_;rw [Src.word_none _ _ d3]
 have g4:({ r with at_:=a3,v:=Rd.pushed { V with fuel:=V.fuel-1 } 9 }:Rd).next={ r with at_:=a3,v:=Rd.pushed { V with fuel:=V.fuel-1 } 9 }:=by
  show ({ r with at_:=(Src.word r.src a3).2,v:=Rd.pushed { V with fuel:=V.fuel-1 } 9 }:Rd)=_
  rw [Src.word_none _ _ d3]
 rw [read_stop E k _ y 0 (post_push (post_fuel hv1 _) (by show V.d.depth<60;rw [hde];omega) 9).over g3,g4,hcm]
 have e:r.v.fuel-1-1=r.v.fuel-2:=by omega
 show (({ r with at_:=a3,v:={ Rd.pushed (Rd.pushed r.v c.toNat) 9 with fuel:=r.v.fuel-1-1 } },y),(0:Int))=_
 rw [e]
end C17
def moreText (s rest:List UInt8):List UInt8:=[99,104,97,114,32]++s++[32]++rest
def moreW (r:Rd):Rd × Int :=
 if Rd.badName r.nextW then (r.next,-16) else (r.next.again (moreText r.nextW (r.next.src.drop r.next.at_))).literal [7]
def E1:Ext Int:=⟨fun s=>decide (s=[109,111,114,101]),fun _ q=>(((moreW q.1).1,q.2),(moreW q.1).2),fun q=>(q.1,wrap64 (q.2+1)),fun r=>r.src.length≤900000⟩
theorem moreW_fine {κ:Kp} {f:Int} {r:Rd} (h:Rd.Fi κ f r) (hs:r.src.length+40*(r.v.fuel.toNat+1)≤κ.b):Rd.Fine κ f (moreW r):=by
 unfold moreW;split
 · exact Rd.fine_of (r:=r.next) h (by unfold Kd;omega)
 · rename_i hb
   have hl:r.nextW.length≤31:=by
    unfold Rd.badName at hb;simp at hb
    omega
   refine Rd.literal_fine (r:=r.next.again (moreText r.nextW (r.next.src.drop r.next.at_))) ⟨h.1,h.2.1,h.2.2.1,?_⟩ _
   show (moreText r.nextW (r.src.drop _)).length+40*r.v.fuel.toNat≤κ.b
   unfold moreText;rw [List.length_append,List.length_append,List.length_append,List.length_drop];simp only [List.length_cons,List.length_nil]
   omega
theorem e1_fine:ExtFine (K0 900000) E1 :=
 ⟨fun _ f q h hs=>moreW_fine (f:=f) h hs,fun _ _ h=>h,fun f r h _=>by have:=h.2.2.2;show r.src.length≤900000;have e:(K0 900000).b=900000:=rfl;omega⟩
namespace C17
theorem post_start (l:List Int) (f:Int):Post { vm with x:=Y l,fuel:=f }:=⟨y_agree l,rfl,rfl,rfl,rfl,rfl,Int.le_refl _⟩
def three (v:VM) (c:UInt8):VM:=Rd.pushed (Rd.pushed (Rd.pushed v 7) c.toNat) 9
def moreT (nm:List UInt8):List UInt8:=[109,111,114,101]++32 :: (nm++32 :: [57])
def sevenT (nm:List UInt8):List UInt8:=[55]++32 :: charT nm
theorem more_is (l:List Int) (y:Int) (nm:List UInt8) (c:UInt8) (t:List UInt8) (hn:nm=c :: t) (hs:Src.solid nm=true) (hl:nm.length≤31) :
 ∃ a,E1.read (moreT nm) (rz l,y)=(({ rz l with src:=charT nm,at_:=a,v:={ three { vm with x:=Y l } c with fuel:=497 } },y),0)∧(charT nm).drop a=[]:=by
 unfold Ext.read;have hk:(rz l,y).1.v.fuel.toNat+2=498+3+1:=rfl;rw [hk];obtain ⟨w1,d1⟩:=Src.word_mid (moreT nm) [109,111,114,101] (nm++32 :: [57]) 0 (by decide) rfl
 obtain ⟨w2,d2⟩:=Src.word_mid (moreT nm) nm [57] _ hs d1;generalize 0+[109,111,114,101].length+1=a1 at w1 w2 d1 d2;generalize a1+nm.length+1=a2 at w2 d2;have h1:((rz l).again (moreT nm)).nextW=[109,111,114,101]:=by show (Src.word (moreT nm) 0).1=_;rw [w1]
 have h2:({ ((rz l).again (moreT nm)).next with v:={ ((rz l).again (moreT nm)).v with fuel:=((rz l).again (moreT nm)).v.fuel-1 } }:Rd)={ rz l with src:=moreT nm,at_:=a1,v:={ vm with x:=Y l,fuel:=499 } }:=by
  show ({ rz l with src:=moreT nm,at_:=(Src.word (moreT nm) 0).2,v:={ vm with x:=Y l,fuel:=500-1 } }:Rd)=_
  rw [w1];rfl
 have hm:moreW ({ rz l with src:=moreT nm,at_:=a1,v:={ vm with x:=Y l,fuel:=499 } }:Rd)=({ rz l with src:=charT nm,at_:=0,v:=Rd.pushed { vm with x:=Y l,fuel:=499 } 7 },0):=by
  unfold moreW;have n1:({ rz l with src:=moreT nm,at_:=a1,v:={ vm with x:=Y l,fuel:=499 } }:Rd).nextW=nm:=by show (Src.word (moreT nm) a1).1=_;rw [w2]
  have n2:({ rz l with src:=moreT nm,at_:=a1,v:={ vm with x:=Y l,fuel:=499 } }:Rd).next={ rz l with src:=moreT nm,at_:=a2,v:={ vm with x:=Y l,fuel:=499 } }:=by
   show ({ rz l with src:=moreT nm,at_:=(Src.word (moreT nm) a1).2,v:={ vm with x:=Y l,fuel:=499 } }:Rd)=_
   rw [w2]
  have hb:Rd.badName nm=false:=by
   unfold Rd.badName;rw [hn];rw [hn] at hl;simp only [reduceCtorEq,decide_false,Bool.false_or,decide_eq_false_iff_not]
   omega
  have ht:moreText nm ((moreT nm).drop a2)=charT nm:=by
   rw [d2];unfold moreText charT;simp
  dsimp only at n1 n2 ⊢;rw [n1,n2,hb];simp only [Bool.false_eq_true,if_false]
  rw [ht];exact Rd.push_one _ 7 rfl (by show (0:Int)<60;decide)
 have hp:E1.doIt ((rz l).again (moreT nm)).nextW ({ ((rz l).again (moreT nm)).next with v:={ ((rz l).again (moreT nm)).v with fuel:=((rz l).again (moreT nm)).v.fuel-1 } },y)=(({ rz l with src:=charT nm,at_:=0,v:=Rd.pushed { vm with x:=Y l,fuel:=499 } 7 },y),0):=by
  rw [h1,h2];unfold Ext.doIt;rw [if_pos (show E1.has (lower [109,111,114,101])=true by decide +kernel)]
  show (((moreW _).1,y),(moreW _).2)=_
  rw [hm]
 rw [show ((rz l,y).1.again (moreT nm),(rz l,y).2)=((rz l).again (moreT nm),y) from rfl]
 rw [read_gen E1 (498+3) ((rz l).again (moreT nm)) y 0 rfl (by rw [h1];simp) (by show ¬ (500:Int)≤0;decide) _ _ hp]
 have hv:=post_push (post_start l 499) (by show (0:Int)<60;decide) 7
 have hd:(Rd.pushed { vm with x:=Y l,fuel:=499 } 7).d.depth=1:=by
  rw [Rd.pushed_d _ _ (by show (0:Int)<60;decide)]
  rfl
 obtain ⟨a,q1,q2⟩:=char_nine E1 (by decide) (by decide) 498 ({ rz l with src:=charT nm,at_:=0,v:=Rd.pushed { vm with x:=Y l,fuel:=499 } 7 }:Rd) y nm c t hn hs rfl rfl hv (by show (Rd.pushed { vm with x:=Y l,fuel:=499 } 7).d.depth<50;rw [hd];decide) (by show (2:Int)≤499;decide) rfl
 exact ⟨a,q1,q2⟩
theorem seven_is (l:List Int) (f:Int) (nm:List UInt8) (c:UInt8) (t:List UInt8) (hn:nm=c :: t) (hs:Src.solid nm=true) (hf:3≤f) :
 ∃ a,E0.read (sevenT nm) (rbz l f,())=(({ rbz l f with src:=sevenT nm,at_:=a,v:={ three { vm with x:=Y l } c with fuel:=f-3 } },()),0)∧(sevenT nm).drop a=[]:=by
 unfold Ext.read;have hk:(rbz l f,()).1.v.fuel.toNat+2=(f.toNat-2)+3+1:=by show f.toNat+2=_;omega
 rw [hk];obtain ⟨w1,d1⟩:=Src.word_mid (sevenT nm) [55] (charT nm) 0 (by decide) rfl
 generalize 0+[55].length+1=a1 at w1 d1;have h1:((rbz l f).again (sevenT nm)).nextW=[55]:=by show (Src.word (sevenT nm) 0).1=_;rw [w1]
 have h2:({ ((rbz l f).again (sevenT nm)).next with v:={ ((rbz l f).again (sevenT nm)).v with fuel:=((rbz l f).again (sevenT nm)).v.fuel-1 } }:Rd)={ rbz l f with src:=sevenT nm,at_:=a1,v:={ vm with x:=Y l,fuel:=f-1 } }:=by
  show ({ rbz l f with src:=sevenT nm,at_:=(Src.word (sevenT nm) 0).2,v:={ vm with x:=Y l,fuel:=f-1 } }:Rd)=_
  rw [w1]
 have hp:E0.doIt ((rbz l f).again (sevenT nm)).nextW ({ ((rbz l f).again (sevenT nm)).next with v:={ ((rbz l f).again (sevenT nm)).v with fuel:=((rbz l f).again (sevenT nm)).v.fuel-1 } },())=(({ rbz l f with src:=sevenT nm,at_:=a1,v:=Rd.pushed { vm with x:=Y l,fuel:=f-1 } 7 },()),0):=by
  rw [h1,h2];refine doIt_own E0 _ _ _ _ rfl ?_;exact num_post ({ rbz l f with src:=sevenT nm,at_:=a1,v:={ vm with x:=Y l,fuel:=f-1 } }:Rd) 7 (by decide) (by decide) rfl rfl (post_start l (f-1)) (by show (0:Int)<60;decide)
 rw [show ((rbz l f,()).1.again (sevenT nm),(rbz l f,()).2)=((rbz l f).again (sevenT nm),()) from rfl]
 rw [read_gen E0 ((f.toNat-2)+3) ((rbz l f).again (sevenT nm)) () 0 rfl (by rw [h1];simp) (by show ¬ f≤0;omega) _ _ hp]
 have hv:=post_push (post_start l (f-1)) (by show (0:Int)<60;decide) 7
 have hd:(Rd.pushed { vm with x:=Y l,fuel:=f-1 } 7).d.depth=1:=by
  rw [Rd.pushed_d _ _ (by show (0:Int)<60;decide)]
  rfl
 obtain ⟨a,q1,q2⟩:=char_nine E0 rfl rfl (f.toNat-2) ({ rbz l f with src:=sevenT nm,at_:=a1,v:=Rd.pushed { vm with x:=Y l,fuel:=f-1 } 7 }:Rd) () nm c t hn hs rfl rfl hv (by show (Rd.pushed { vm with x:=Y l,fuel:=f-1 } 7).d.depth<50;rw [hd];decide) (by show (2:Int)≤f-1;omega) d1
 refine ⟨a,?_,q2⟩;rw [q1]
 show (({ rbz l f with src:=sevenT nm,at_:=a,v:={ three { vm with x:=Y l } c with fuel:=f-1-2 } },()),(0:Int))=_
 rw [show f-1-2=f-3 by omega]
end C17
theorem own_tick (r:Rd):r.own [39]=r.tick:=by
 have e:K_words (lower [39])=some (.plain 248):=by decide +kernel
 unfold Rd.own;rw [e];rfl
namespace C17
def tickT:List UInt8:=[39,32,119]
theorem wordT0:Src.word tickT 0=([39],2):=by decide +kernel
theorem wordT1:Src.word tickT 2=([119],3):=by decide +kernel
theorem wordT2:Src.word tickT 3=([],3):=by decide +kernel
theorem tick_is {α:Type} (E:Ext α) (he:E.has [39]=false) (r:Rd) (y:α) (ho:r.ord=[24]) (hc:r.comp=false) (hv:Post r.v) (hd:r.v.d.depth<50) (hf:1≤r.v.fuel) :
 E.read tickT (r,y)=(({ r with src:=tickT,at_:=3,v:={ Rd.pushed r.v 2856 with fuel:=r.v.fuel-1 } },y),0):=by
 unfold Ext.read;have hk:(r,y).1.v.fuel.toNat+2=r.v.fuel.toNat+1+1:=rfl;rw [hk];have h1:(r.again tickT).nextW=[39]:=by show (Src.word tickT 0).1=_;rw [wordT0]
 have h2:({ (r.again tickT).next with v:={ (r.again tickT).v with fuel:=(r.again tickT).v.fuel-1 } }:Rd)={ r with src:=tickT,at_:=2,v:={ r.v with fuel:=r.v.fuel-1 } }:=by
  show ({ r with src:=tickT,at_:=(Src.word tickT 0).2,v:={ r.v with fuel:=r.v.fuel-1 } }:Rd)=_
  rw [wordT0]
 have hfi:({ r with src:=tickT,at_:=2,v:={ r.v with fuel:=r.v.fuel-1 } }:Rd).find=({ r with src:=tickT,at_:=3,v:={ r.v with fuel:=r.v.fuel-1 } },⟨2832,2856,0,[119]⟩,0):=by
  unfold Rd.find Rd.name;have n1:({ r with src:=tickT,at_:=2,v:={ r.v with fuel:=r.v.fuel-1 } }:Rd).nextW=[119]:=by show (Src.word tickT 2).1=_;rw [wordT1]
  have n2:({ r with src:=tickT,at_:=2,v:={ r.v with fuel:=r.v.fuel-1 } }:Rd).next={ r with src:=tickT,at_:=3,v:={ r.v with fuel:=r.v.fuel-1 } }:=by
   show ({ r with src:=tickT,at_:=(Src.word tickT 2).2,v:={ r.v with fuel:=r.v.fuel-1 } }:Rd)=_
   rw [wordT1]
  dsimp only at n1 n2 ⊢;rw [n1,n2,show Rd.badName [119]=false by decide]
  simp only [Bool.false_eq_true,if_false,ne_eq,not_true_eq_false]
  rw [ho,post_find hv]
 have hp:E.doIt (r.again tickT).nextW ({ (r.again tickT).next with v:={ (r.again tickT).v with fuel:=(r.again tickT).v.fuel-1 } },y)=(({ r with src:=tickT,at_:=3,v:={ Rd.pushed r.v 2856 with fuel:=r.v.fuel-1 } },y),0):=by
  rw [h1,h2];refine doIt_own E _ _ _ _ he ?_;rw [own_tick];unfold Rd.tick;rw [hfi,if_neg (by simp)]
  exact Rd.push_one ({ r with src:=tickT,at_:=3,v:={ r.v with fuel:=r.v.fuel-1 } }:Rd) 2856 hc (by show r.v.d.depth<r.v.d.most;rw [hv.most];omega)
 rw [show ((r,y).1.again tickT,(r,y).2)=(r.again tickT,y) from rfl]
 rw [read_gen E (r.v.fuel.toNat+1) (r.again tickT) y 0 hv.over (by rw [h1];simp) (show ¬ r.v.fuel≤0 by omega) _ _ hp]
 have g1:({ r with src:=tickT,at_:=3,v:={ Rd.pushed r.v 2856 with fuel:=r.v.fuel-1 } }:Rd).nextW=[]:=by show (Src.word tickT 3).1=_;rw [wordT2]
 have g2:({ r with src:=tickT,at_:=3,v:={ Rd.pushed r.v 2856 with fuel:=r.v.fuel-1 } }:Rd).next={ r with src:=tickT,at_:=3,v:={ Rd.pushed r.v 2856 with fuel:=r.v.fuel-1 } }:=by
  show ({ r with src:=tickT,at_:=(Src.word tickT 3).2,v:={ Rd.pushed r.v 2856 with fuel:=r.v.fuel-1 } }:Rd)=_
  rw [wordT2]
 have hov:(Rd.pushed r.v 2856).over=false:=hv.over;rw [read_stop E r.v.fuel.toNat ({ r with src:=tickT,at_:=3,v:={ Rd.pushed r.v 2856 with fuel:=r.v.fuel-1 } }:Rd) y 0 hov g1,g2]
theorem xm_size:xm.size=12000+60*8+30*8+400:=by decide +kernel
theorem pop_pushed (v:VM) (n:Int) (h0 : -9223372036854775808≤n) (h1:n≤9223372036854775807) (hv:Post v) (hd:v.d.depth<50):Stk.pop (Rd.pushed v n).x.mem (Rd.pushed v n).d=(v.d,n,0):=by
 have hdm:v.d.depth<v.d.most:=by rw [hv.most];omega
 have hd0:=hv.d0;have hfr:=hv.from_;have hs:v.x.mem.size=13120:=by rw [hv.agree.size,xm_size]
 have ha:v.x.mem.at_ (v.d.from_+v.d.depth*8)=0:=by rw [Mem.at_zero,hfr,hs];omega
 rw [Rd.pushed_mem v n hdm,Rd.pushed_d v n hdm]
 have hat:Stk.at_ (v.x.mem.setCell (v.d.from_+v.d.depth*8) n).1 { v.d with depth:=v.d.depth+1 } 0=(n,0):=by
  unfold Stk.at_;rw [if_neg (by omega),if_neg (by show ¬ v.d.depth+1≤0;omega)]
  unfold Stk.place;rw [show ({ v.d with depth:=v.d.depth+1 }:Stk).from_+(({ v.d with depth:=v.d.depth+1 }:Stk).depth-1-0)*8=v.d.from_+v.d.depth*8 by show v.d.from_+(v.d.depth+1-1-0)*8=_;omega]
  exact Mem.cell_set_same _ _ _ ha h0 h1
 unfold Stk.pop;rw [hat,if_pos rfl];refine Prod.ext ?_ rfl
 show ({ v.d with depth:=v.d.depth+1-1 }:Stk)=v.d
 rw [Int.add_sub_cancel]
theorem fails_is (l:List Int) (y:Int):∃ r,E1.fail (ra l,y) (-10)=(r,wrap64 (y+1))∧r.v.x.here=2832∧r.v.out=[63,45,49,48,10]∧r.comp=false:=by
 refine ⟨_,rfl,?_,?_,?_⟩
 · show ((ra l).failed (-10)).v.x.here=2832
   unfold Rd.failed;rw [emptied_is _ _ (by show (0:Int)≤60;decide) (by show (0:Int)≤30;decide)]
   dsimp only;rw [if_pos (show (ra l).is=true from rfl)]
   show (((Sp.cells l x1).back (ra l).here).1).here=2832
   have h1:(ra l).here=2832:=here0;have h2:=Sp.cells_here l x1;have h3:=(Sp.cells_lo l x1).1;obtain ⟨q1,q2,_,_⟩:=x1_is;rw [h1];unfold Sp.back;rw [if_neg (by rw [h2,h3,q1,q2];omega)]
 · show ((ra l).failed (-10)).v.out=_
   unfold Rd.failed;rw [emptied_is _ _ (by show (0:Int)≤60;decide) (by show (0:Int)≤30;decide)]
   dsimp only;rw [if_pos (show (ra l).is=true from rfl)]
   exact (show ([]:List UInt8)++(Rd.errText (-10)).take (65536-0)=[63,45,49,48,10] by decide +kernel)
 · show ((ra l).failed (-10)).comp=false
   unfold Rd.failed;dsimp only
   try (split <;> rfl)
end C17
end Go.Proofs.Shed
set_option maxRecDepth 10000
namespace Go.Proofs.Shed
open Go Go.RowKit Go.Proofs.K Go.Proofs.Cod
theorem reader_of2 (w w':World) (K:Bk) (v:VM) (h:RFv w K v) (hg:Glo w) (hk:∀ g,g<4→¬ K.all g) (e:Ending) (hp:OuterPostS w K.mb v.list (v.x.mem.words v.list) e w') :
 ∃ ob pm np mm Z,e=.returned (.pointer (some ⟨ob,0,none⟩))∧RJ RE0 (Gk0 K ob pm np mm) w' Z (rd0 v,())∧(∀ g,Z g→K.all g∨w.heap.size≤g)∧Keeps (fun _=>False) w w'∧pm≠mm:=by
 obtain ⟨g,q,la,m1,m2,he,hro,hla,hm1,hm2,hne,l1,l2,l3,l4,kw,l5,hsr⟩:=hp;rw [foldl_pf] at hm1;have hv:=h.keeps0 kw;have h4:=hg.lt;have hnk:∀ x,K.all x→x<w.heap.size:=fun x hx=>h.all_lt hx
 refine ⟨g,m1,_,m2,fun x=>K.all x∨(x=g∨x=q∨x=la∨x=m1∨x=m2),he,⟨⟨fun x=>K.all x∨(x=g∨x=q∨x=la∨x=m1∨x=m2),fun _=>False,⟨⟨q,some ⟨la,0,none⟩,1,none,0⟩,⟨hv,hro,hsr,hla,Own.nil _ _ _,hm1,hm2,?_,?_⟩,?_,?_⟩,fun _=>id,fun _ _=>id,fun x hx=>hx.elim id (fun e=>e.elim)⟩,?_,hg.keeps0 kw,?_⟩,?_,kw,hne⟩
 · rintro x (hx | hx | hx | hx | hx | hx) hk
   · have:=hnk x hk;have e:x=g:=hx;omega
   · have:=hnk x hk;have e:x=q:=hx;omega
   · have:=hnk x hk;have e:la=x:=Option.some.inj hx;omega
   · cases hx
   · have:=hnk x hk;have e:x=m1:=hx;omega
   · have:=hnk x hk;have e:x=m2:=hx;omega
 · exact ⟨by show (0:Nat)≤1000000;decide,by show (1:Nat)≤1000000;decide,by show (0:Nat)≤100;decide,by show 0≤Wd.none.at_;decide,by show Wd.none.at_≤4194304;decide,by show 0≤Wd.none.at_;decide,by show Wd.none.at_≤4194304;decide⟩
 · rintro x ((hx | hx | hx | hx | hx | hx) | hx)
   · exact .inr (.inl hx)
   · exact .inr (.inr (.inl hx))
   · exact .inr (.inr (.inr (.inl (Option.some.inj hx).symm)))
   · cases hx
   · exact .inr (.inr (.inr (.inr (.inl hx))))
   · exact .inr (.inr (.inr (.inr (.inr hx))))
   · exact .inl hx
 · rintro x (hx | hx | hx | hx | hx | hx)
   · exact Nat.lt_of_lt_of_le (hnk x hx) kw.size
   · rw [hx];exact lt_of_heap hro
   · rw [hx];exact lt_of_heap hsr.head
   · rw [hx];exact own_lt hla
   · rw [hx];exact hm1.lt
   · rw [hx];exact hm2.lt
 · rintro x (hx | hx | hx | hx | hx | hx)
   · exact Nat.lt_of_lt_of_le (hnk x hx) kw.size
   · rw [hx];exact lt_of_heap hro
   · rw [hx];exact lt_of_heap hsr.head
   · rw [hx];exact own_lt hla
   · rw [hx];exact hm1.lt
   · rw [hx];exact hm2.lt
 · rintro x h0 (hx | hx | hx | hx | hx | hx)
   · exact hk x h0 hx
   · omega
   · omega
   · omega
   · omega
   · omega
 · rintro x (hx | hx | hx | hx | hx | hx)
   · exact .inl hx
   all_goals exact .inr (by omega)
def ReaderPost2 (w:World) (K:Bk) (v:VM) (e:Ending) (w':World):Prop :=
 ∃ ob pm np mm Z,e=.returned (.pointer (some ⟨ob,0,none⟩))∧RJ RE0 (Gk0 K ob pm np mm) w' Z (rd0 v,())∧(∀ g,Z g→K.all g∨w.heap.size≤g)∧Keeps (fun _=>False) w w'∧pm≠mm
theorem new17b (w:World) (K:Bk) (v:VM) (h:RFv w K v) (hg:Glo w) (hk:∀ g,g<4→¬ K.all g):Calls Tryz.prog 16 #[.pointer (some ⟨K.mb,0,none⟩)] w (ReaderPost2 w K v) :=
 (outer_news w K.mb K.s K.b K.bb _ v.x h.vm.mc rfl h.vm.sp).mono fun e w' hp=>reader_of2 w w' K v h hg hk e hp
def vmC:VM:=L17.vm 12000 60 30 400
def TwoPost (w:World) (e:Ending) (w':World):Prop :=
 ∃ (K:Bk) (ob pm np mm:Nat) (Z:Nat→Prop) (K2:Bk) (ob2 pm2 np2 mm2:Nat) (Z2:Nat→Prop),e=.returned (.tuple #[.pointer (some ⟨ob,0,none⟩),.pointer (some ⟨ob2,0,none⟩),.bool true]) ∧
  RJ RE0 (Gk0 K ob pm np mm) w' Z (rd0 vmC,())∧RJ RE0 (Gk0 K2 ob2 pm2 np2 mm2) w' Z2 (rd0 vmC,())∧(∀ g,Z g→w.heap.size≤g)∧(∀ g,Z2 g→w.heap.size≤g)∧(∀ g,Z g→¬ Z2 g)∧Keeps (fun _=>False) w w'∧pm≠mm
theorem two17 (w:World) (hg:Glo w):Calls Tryz.prog 22 #[] w (TwoPost w):=by
 have h4:=hg.lt;have HO:=h_ fun V=>of_C V
 have HN:=h_ fun V w1 K (hv:RFv w1 K vmC) (hk:∀ g,K.all g→V.heap.size≤g) (k0:Keeps (fun _=>False) w V) (k:Keeps (fun _=>False) w w1)=>new17b w1 K _ hv (hg.keeps0 k) (fun g hg e=>by have:=hk g e;have:=k0.size;omega)
 clear hg h4
 go_enter Tryz.func22,Tryz.ntmps22
 go_upto_region 2 with fail;have HP:=h_ (halloc_at w (.cells #[.int .u16 12000,.int .u16 400,.int .u8 60,.int .u8 30] 33));have KP:=h_ (ka_ w (.cells #[.int .u16 12000,.int .u16 400,.int .u8 60,.int .u8 30] 33));obtain ⟨g0,hg0⟩:∃ g0,g0=w.heap.size:=⟨_,rfl⟩;rw [← hg0] at HP ⊢;generalize w.alloc (.cells #[.int .u16 12000,.int .u16 400,.int .u8 60,.int .u8 30] 33)=W at HP KP ⊢
 have HY:=h_ (show ∀ V,Keeps (fun _=>False) W V→V.cell? ⟨g0,0,none⟩=some (.int .u16 12000)∧V.cell? ⟨g0,1,none⟩=some (.int .u16 400)∧V.cell? ⟨g0,2,none⟩=some (.int .u8 60)∧V.cell? ⟨g0,3,none⟩=some (.int .u8 30) from
  fun V k=>⟨cell_of (k.heap HP.out id) rfl,cell_of (k.heap HP.out id) rfl,cell_of (k.heap HP.out id) rfl,cell_of (k.heap HP.out id) rfl⟩)
 clear hg0 HP;obtain ⟨y0,y1,y2,y3⟩:=HY.out W (Keeps.refl _ _);go_wp2_with fail;refine (HO.out W).mono ?_;rintro e w1 ⟨K,x,rfl,v1,f1,k1⟩;have V1:=h_ v1;have F1:=h_ f1;have KW1:=h_ k1;clear y0 y1 y2 y3 v1 f1 k1;obtain ⟨y0,y1,y2,y3⟩:=HY.out w1 KW1.out;go_wp2_with fail;refine (HO.out w1).mono ?_;rintro e w2 ⟨K2,x2,rfl,v2,f2,k2⟩;have V2:=h_ v2;have F2:=h_ f2;have KW2:=h_ k2;have V12:=h_ (V1.out.keeps0 k2);clear y0 y1 y2 y3 v2 f2 k2;go_wp2_with fail;refine (HN.out W w2 K V12.out F1.out KP.out ((KP.out.trans KW1.out).trans KW2.out)).mono ?_;rintro e w3 ⟨ob,pm,np,mm,Z,rfl,j3,z3,k3,hpm⟩;have HPM:=h_ hpm;have J3:=h_ j3;have Z3:=h_ z3;have K3:=h_ k3;have V23:=h_ (V2.out.keeps0 k3);clear j3 z3 k3 hpm;go_wp2_with fail;refine (HN.out w1 w3 K2 V23.out F2.out (KP.out.trans KW1.out) (((KP.out.trans KW1.out).trans KW2.out).trans K3.out)).mono ?_;rintro e w4 ⟨ob2,pm2,np2,mm2,Z',rfl,j4,z4,k4,_⟩;have J4:=h_ j4;have Z4:=h_ z4;have K4:=h_ k4;have J34:=h_ (J3.out.keeps0 (ext0_ok K ob pm np mm) k4);have a0:w4.cell? ⟨ob,0,none⟩=some (.pointer (some ⟨K.mb,0,none⟩)):=J34.out.rd.elim fun X h=>h.o0
 have b0:w4.cell? ⟨ob2,0,none⟩=some (.pointer (some ⟨K2.mb,0,none⟩)):=J4.out.rd.elim fun X h=>h.o0
 have HD:=h_ (show (∀ g,Z g→w.heap.size≤g)∧(∀ g,Z' g→w.heap.size≤g)∧(∀ g,Z g→¬ Z' g)∧Keeps (fun _=>False) w w4 from by
  have s0:=KP.out.size;have s1:=KW1.out.size;have s2:=KW2.out.size;have s3:=K3.out.size;refine ⟨fun g hg=>?_,fun g hg=>?_,fun g hg hg2=>?_,(((KP.out.trans KW1.out).trans KW2.out).trans K3.out).trans K4.out⟩
  · rcases Z3.out g hg with h | h
    · have:=F1.out g h;omega
    · omega
  · rcases Z4.out g hg with h | h
    · have:=F2.out g h;omega
    · omega
  · have l3:=J3.out.lt g hg
    rcases Z3.out g hg with h | h
    · have l1:=V1.out.all_lt h
      rcases Z4.out g hg2 with h2 | h2
      · have:=F2.out g h2;omega
      · omega
    · rcases Z4.out g hg2 with h2 | h2
      · have:=V2.out.all_lt h2;omega
      · omega)
 clear j4 z4 k4 J3 Z3 Z4 K3 K4 V1 V2 V12 V23 F1 F2 KW1 KW2 HO HN HY;go_wp2_with fail
 go_region
 go_wp2_with fail
 go_ret3
 exact ⟨K,ob,pm,np,mm,Z,K2,ob2,pm2,np2,mm2,Z',rfl,J34.out.keeps0 (ext0_ok K ob pm np mm) (Keeps.drew _ _),J4.out.keeps0 (ext0_ok K2 ob2 pm2 np2 mm2) (Keeps.drew _ _),HD.out.1,HD.out.2.1,HD.out.2.2.1,HD.out.2.2.2.trans (Keeps.drew _ _),HPM.out⟩
theorem outer_extend2 (w:World) (ob b2 kf n1 n2:Nat) (fst cp:Array Value) (o:Oc) (f1 f2:List UInt8→Option Value) (ho:ROc w ob o) (h1:MapIs sk w o.more n1 f1) (h2:MapIs sk w b2 n2 f2) (hne:o.more≠b2) (hn:n1+n2≤1000) :
 Calls Tryz.prog 23 #[.pointer (some ⟨ob,0,none⟩),.map (some b2),(.func (.func kf) fst cp)] w fun e w'=>e=.returned (.tuple #[])∧ROc w' ob { o with reset:=(.func (.func kf) fst cp) }∧MapIs sk w' o.more (n1+n2) (over f2 f1)∧Keeps (fun g=>g=ob∨g=o.more) w w':=by
 have H1:=h_ h1;have H2:=h_ h2;have HO:=h_ ho;have hb1:=h1.lt;have hob:=lt_of_heap ho;have hom:ob≠o.more:=fun e=>MapIs.noRow h1 _ _ _ (e ▸ ho)
 have hob2:ob≠b2:=fun e=>MapIs.noRow h2 _ _ _ (e ▸ ho)
 have HN:=h_ (And.intro hom (And.intro hob2 hne));clear h1 h2 ho hom hob2 hne
 go_enter Tryz.func23,Tryz.ntmps23
 go_wp2_with (first
  | (at_range;refine wpList_range sk _ rfl _ 57 rfl _ Tryz.underlying57 b2 n2 f2 rfl H2.out ?_;intro w0 cnt0 hrg0 hk0)
  | go_in)
 go_frame
 have HR0:=h_ hrg0;have HK0:=h_ hk0;clear hrg0 hk0
 go_loopw [12] (fun _ wr=>∃ (left:List UInt8→Bool) (cnt m:Nat),MapRun sk wr b2 w.heap.size n2 f2 left cnt∧m+cnt≤n1+n2∧MapIs sk wr o.more m (blend f2 f1 left)∧Keeps (fun g=>g=o.more) w wr) (fun _ wr=>wr.rangeLeft b2 w.heap.size)
 case atStart =>
  refine ⟨_,cnt0,n1,HR0.out,by have:=HR0.out.cnt_le;omega,?_,HK0.out.mono (fun _ _ e=>e.elim)⟩
  rw [blend_start];exact H1.out.keeps HK0.out id
 case round =>
  obtain ⟨left,cnt,m,hrg,hm,hd,hk⟩:=hrel;have HR:=h_ hrg;have HD:=h_ hd;have HK:=h_ hk;clear hrg hd hk
  go_wp2_with (first
   | (at_next;refine wpList_mstep sk _ rfl _ rfl b2 w.heap.size n2 f2 left cnt rfl HR.out ?_ ?_)
   | go_in)
  · intro hl
    have HL:=h_ hl;clear hl;have RO:=HO.out.keeps HK.out HN.out.1;have q:=ROc.free RO 19;have ks:Keeps (fun k=>k=ob) wr (wr.setCell ⟨ob,19,none⟩ ((.func (.func kf) fst cp))):=Keeps.setCell _ _ _ (fun _=>rfl)
    have RS:=h_ (show ROc (wr.setCell ⟨ob,19,none⟩ ((.func (.func kf) fst cp))) ob { o with reset:=(.func (.func kf) fst cp) } from hset_same RO _)
    have c19:wr.cell? ⟨ob,19,none⟩=some o.reset:=cell_of RO rfl;have MF:=h_ ((HD.out.mono (show m≤n1+n2 by omega)).congr (fun x hx=>blend_end _ _ _ _ (HL.out x hx)))
    have MS:=h_ (MF.out.keeps ks (fun e=>HN.out.1 (by have e:o.more=ob:=e;exact e.symm)))
    have KF:=h_ ((HK.out.mono (T:=fun g=>g=ob∨g=o.more) (fun _ _ e=>.inr e)).trans (ks.mono (fun _ _ e=>.inl e)))
    have hst:(store ⟨ob,19,none⟩ ((.func (.func kf) fst cp))).run Tryz.prog wr=.ok () (wr.setCell ⟨ob,19,none⟩ ((.func (.func kf) fst cp))):=by
     have h:=run_store Tryz.prog wr ⟨ob,19,none⟩ ((.func (.func kf) fst cp)) .plain rfl;rw [c19] at h;simpa [q] using h
    clear RO ks;go_wp2_with fail;go_end0
    exact ⟨rfl,RS.out,MS.out,KF.out⟩
  · intro x v w1 cnt1 hok hlx hfx hrg1 hlt hg1 hen
    have hr:=HR.out.lts;have HR1:=h_ hrg1;have HD1:=h_ (HD.out.keeps hg1 (fun e=>by have e:o.more=w.heap.size:=e;omega))
    have HK1:=h_ (HK.out.trans' hg1 (fun i hi e=>by have e:i=w.heap.size:=e;omega))
    have HF:=h_ hfx;have HO1:=h_ hok;have c18:w1.cell? ⟨ob,18,none⟩=some (.map (some o.more)):=(HO.out.keeps HK1.out HN.out.1).c18
    change (Instr.entry (.pointer (some ⟨w.heap.size,0,none⟩))).run Tryz.prog w1=.ok (.tuple #[.string ⟨x.toArray⟩,v]) w1 at hen
    rw [show sk.val x=Value.string ⟨x.toArray⟩ from rfl]
    clear hrg1 hg1 hfx hok hlx
    go_wp2_with (first
     | (at_mapUpdate;refine wpList_put sk _ rfl _ _ _ 57 (.inl rfl) _ Tryz.underlying57 o.more m _ rfl HD1.out (by unfold maxLen;omega) x HO1.out v rfl rfl ?_;intro w2 hd2 hk2;go_frame)
     | go_in)
    have HR2:=h_ (HR1.out.keeps hk2 (fun e=>HN.out.2.2 (by have e:b2=o.more:=e;exact e.symm)) (fun e=>by have e:w.heap.size=o.more:=e;omega))
    have HK2:=h_ (HK1.out.trans hk2);rw [blend_step _ _ _ _ _ HF.out] at hd2;have HD2:=h_ hd2;clear hd2 hk2
    go_roundw
    case rel=>exact ⟨_,cnt1,m+1,HR2.out,by omega,HD2.out,HK2.out⟩
    case measure=>rw [HR2.out.left_eq,HR.out.left_eq];exact hlt
theorem char_app (s r:List UInt8):Value.string (((⟨#[99,104,97,114,32]⟩:ByteArray)++⟨s.toArray⟩)++⟨#[32]⟩++⟨r.toArray⟩)=.string ⟨(moreText s r).toArray⟩:=by
 unfold moreText;congr 1
theorem name_good (r:Rd) (hb:Rd.badName r.nextW=false):r.name=(r.next,r.nextW,0):=by unfold Rd.name;rw [hb];rfl
theorem name_bad (r:Rd) (hb:Rd.badName r.nextW=true):r.name=(r.next,[],-16):=by unfold Rd.name;rw [hb];rfl
theorem call_more (G:Gk) (X:Nat→Prop) (w:World) (r:Rd) (hs:r.src.length≤900000) (h:RRd w G X r):Calls Tryz.prog 24 #[.pointer (some ⟨G.ob,0,none⟩)] w (PR G X w (moreW r)):=by
 cases hb:Rd.badName r.nextW with
 | true =>
  have hq:moreW r=(r.next,-16):=by unfold moreW;rw [if_pos hb]
  rw [hq];have HN:=rd_name G X w r h;rw [name_bad r hb] at HN;have HN:=h_ HN;clear h hq hb
  go_enter Tryz.func24,Tryz.ntmps24
  go_wp2_with fail;refine HN.out.mono ?_;rintro e w1 ⟨rfl,X1,r1,k1⟩;have R1:=h_ r1;have E1:=h_ k1;clear r1 k1;dsimp only [strL];go_wp2_with fail;go_ret
  exact ⟨rfl,_,R1.out,E1.out⟩
 | false =>
  have hq:moreW r=(r.next.again (moreText r.nextW (r.next.src.drop r.next.at_))).literal [7]:=by unfold moreW;rw [if_neg (by rw [hb];simp)]
  have HN:=rd_name G X w r h;rw [name_good r hb] at HN;have HN:=h_ HN
  have hnl:r.nextW.length≤31:=by
   unfold Rd.badName at hb;simp at hb
   omega
  have htl:(moreText r.nextW (r.next.src.drop r.next.at_)).length≤1000000:=by
   unfold moreText;rw [List.length_append,List.length_append,List.length_append,List.length_drop];have:r.next.src.length=r.src.length:=rfl;simp only [List.length_cons,List.length_nil]
   omega
  have hsn:(r.next.src.drop r.next.at_).length≤900000:=by
   rw [List.length_drop];have:r.next.src.length=r.src.length:=rfl;omega
  have HT:=h_ (char_app r.nextW (r.next.src.drop r.next.at_));have HR:=h_ fun V Y (hV:RRd V G Y r.next)=>hV.read
  have HA:=h_ fun V Y (hV:RRd V G Y r.next)=>rd_again G Y V r.next (moreText r.nextW (r.next.src.drop r.next.at_)) htl hV
  have HL:=h_ fun V Y (hV:RRd V G Y (r.next.again (moreText r.nextW (r.next.src.drop r.next.at_))))=>rd_literal1 G Y V (r.next.again (moreText r.nextW (r.next.src.drop r.next.at_))) 7 hV
  rw [← hq] at HL;generalize moreW r=Q at HL ⊢
  have HR2:=h_ fun V Y (hV:RRd V G Y r.next)=>(show ∃ q,V.cell? ⟨G.ob,1,none⟩=some (.pointer (some ⟨q,0,none⟩))∧Calls Tryz.prog 27 #[.pointer (some ⟨q,0,none⟩)] V fun e w'=>e=.returned (.string ⟨(r.next.src.drop r.next.at_).toArray⟩)∧Keeps (fun _=>False) V w' from
   (HR.out V Y hV).elim fun q hh=>⟨q,hh.1,src_rest V q r.next.src r.next.at_ hh.2.1⟩)
  generalize r.next.again (moreText r.nextW (r.next.src.drop r.next.at_))=r2 at HA HL;generalize moreText r.nextW (r.next.src.drop r.next.at_)=mt at HT HA htl;generalize r.next.src.drop r.next.at_=rt at HT HR2 hsn;generalize r.nextW=nm at HN HT hnl;clear h hq hb HR hs htl;have m1:¬ 9223372036854775807<5+nm.length:=by omega
  have m2:¬ 9223372036854775807<5+nm.length+1:=by omega
  have m3:¬ 9223372036854775807<5+nm.length+1+rt.length:=by omega
  go_enter Tryz.func24,Tryz.ntmps24
  go_wp2_with fail;refine HN.out.mono ?_;rintro e w1 ⟨rfl,X1,r1,k1⟩;have R1:=h_ r1;have E1:=h_ k1;obtain ⟨q,o1,hrest⟩:=HR2.out w1 X1 r1;have HRE:=h_ hrest;clear r1 k1 hrest HR2;dsimp only [strL];go_wp2_with fail;refine HRE.out.mono ?_;rintro e w2 ⟨rfl,k2⟩;have R2:=h_ (R1.out.keeps0 k2);have E2:=h_ (E1.out.trans (Evo.of0 k2));clear k2 o1;go_wp2_with fail
  try rw [HT.out]
  refine (HA.out w2 X1 R2.out).mono ?_;rintro e w3 ⟨rfl,X3,r3,k3⟩;have R3:=h_ r3;have E3:=h_ (E2.out.trans k3);clear r3 k3;go_wp2_with fail;refine (HL.out w3 X3 R3.out).mono ?_;rintro e w4 ⟨rfl,X4,r4,k4⟩;have R4:=h_ r4;have E4:=h_ (E3.out.trans k4);clear r4 k4;go_wp2_with fail;go_ret
  exact ⟨rfl,_,R4.out,E4.out⟩
def RE1 (gd:Nat) (w:World) (Y:Nat→Prop) (y:Int):Prop:=(∀ g,Y g→g=gd)∧Y gd∧w.heap[gd]?=some (.cells #[.int .i64 y] 3 (0,0))
def moreK:List UInt8:=[109,111,114,101]
def doneV (gd:Nat):Value:=.func (.func 29) #[] #[.pointer (some ⟨gd,0,none⟩)]
def Gk1 (K:Bk) (ob pm np mm nm gd:Nat):Gk:=⟨K,ob,pm,np,mm,nm,fun s=>if s=moreK then some (fnV 24) else none,doneV gd⟩
theorem enters_more:Enters 24:=fun args w=>Tryz.call24 args w
theorem enters_done:Enters 29:=fun args w=>Tryz.call29 args w
theorem call_done (gd:Nat) (w:World) (y:Int) (h:w.heap[gd]?=some (.cells #[.int .i64 y] 3 (0,0))):Calls Tryz.prog 29 #[.pointer (some ⟨gd,0,none⟩)] w fun e w'=>e=.returned (.tuple #[])∧w'=w.setCell ⟨gd,0,none⟩ (.int .i64 (wrap64 (y+1))):=by
 have c0:w.cell? ⟨gd,0,none⟩=some (.int .i64 y):=cell_of h rfl;have f0:=free_of (i:=0) h;clear h
 go_enter Tryz.func29,Tryz.ntmps29
 go_wp2_with fail;go_end0
 exact ⟨rfl,rfl⟩
theorem ext1_ok (K:Bk) (ob pm np mm nm gd:Nat):ExtOk E1 (RE1 gd) (Gk1 K ob pm np mm nm gd) where
 keeps:=fun h k n=>⟨h.1,h.2.1,k.heap h.2.2 (n _ h.2.1)⟩
 lt:=fun h g hg=>by rw [h.1 g hg];exact lt_of_heap h.2.2
 no:=fun low h=>by
  show (if low=moreK then some (fnV _) else none)=none
  have h:decide (low=[109,111,114,101])=false:=h;rw [if_neg (by simpa [moreK] using h)]
 yes:=fun low h=>by
  have h:decide (low=[109,111,114,101])=true:=h;have e:low=moreK:=by simpa [moreK] using h
  refine ⟨24,#[],?_,enters_more,fun w Z q hg hz=>?_⟩
  · show (if low=moreK then some (fnV _) else none)=_
    rw [if_pos e];rfl
  · obtain ⟨X,Y,h1,h2,h3,h4⟩:=hz.parts
    refine (call_more (Gk1 K ob pm np mm nm gd) X w q.1 hg h1).mono fun e w' hh=>?_
    obtain ⟨he,X',hr,ev⟩:=hh;refine ⟨he,?_⟩;have ok0:ExtOk (⟨fun _=>false,E1.word,E1.reset,E1.good⟩:Ext Int) (RE1 gd) { (Gk1 K ob pm np mm nm gd) with fm:=fun _=>none }:=⟨fun h k n=>⟨h.1,h.2.1,k.heap h.2.2 (n _ h.2.1)⟩,fun h g hg=>by rw [h.1 g hg];exact lt_of_heap h.2.2,fun _ _=>rfl,fun _ h=>by cases h⟩
    have e1:Evo w Z w' (fun g=>Z g∨X' g):=⟨ev.k.mono (fun g _ h=>h4 g (.inl h)),fun g hg=>hg.elim .inl (fun h=>(ev.n g h).imp (fun h=>h4 g (.inl h)) id)⟩
    have hy:RE1 gd w' Y q.2:=⟨h2.1,h2.2.1,ev.k.heap h2.2.2 (fun h=>h3 gd h h2.2.1)⟩
    have hlt:∀ g,Y g→g<w.heap.size:=fun g hg=>by rw [h2.1 g hg];exact lt_of_heap h2.2.2
    refine ⟨fun g=>Z g∨X' g,⟨⟨X',Y,hr,hy,fun g g1 g2=>(ev.n g g1).elim (fun h=>h3 g h g2) (fun h=>by have:=hlt g g2;omega),fun g hg=>hg.elim .inr (fun h=>.inl (h4 g (.inr h)))⟩,?_,hz.gl.evo e1⟩,e1⟩
    rintro g (hg | hg)
    · exact Nat.lt_of_lt_of_le (hz.lt g hg) ev.k.size
    · exact hr.elim fun _ h=>h.2.2 g hg
theorem reset1_ok (K:Bk) (ob pm np mm nm gd:Nat):ResetOk E1 (RE1 gd) (Gk1 K ob pm np mm nm gd):=by
 refine .inr ⟨29,#[],#[.pointer (some ⟨gd,0,none⟩)],rfl,enters_done,fun w Z q hz=>?_⟩
 obtain ⟨X,Y,h1,h2,h3,h4⟩:=hz.parts;refine (call_done gd w q.2 h2.2.2).mono fun e w' hh=>?_
 obtain ⟨he,rfl⟩:=hh;have k:Keeps (fun g=>g=gd) w (w.setCell ⟨gd,0,none⟩ (.int .i64 (wrap64 (q.2+1)))):=Keeps.setCell _ _ _ (fun _=>rfl)
 have e1:Evo w Z (w.setCell ⟨gd,0,none⟩ (.int .i64 (wrap64 (q.2+1)))) Z:=Evo.of k (fun g hg=>by rw [hg];exact h4 gd (.inr h2.2.1))
 refine ⟨he,Z,⟨⟨X,Y,h1.keeps k (fun g hg e=>h3 g hg (by rw [e];exact h2.2.1)),⟨h2.1,h2.2.1,hset_same h2.2.2 _⟩,h3,h4⟩,fun g hg=>Nat.lt_of_lt_of_le (hz.lt g hg) k.size,hz.gl.evo e1⟩,e1⟩
theorem over_more:over (upd (fun _=>none) moreK (fnV 24)) (fun _=>none)=fun s=>if s=moreK then some (fnV 24) else none:=by
 funext s
 unfold over upd;by_cases h:s=moreK
 · rw [if_pos h]
 · rw [if_neg h]
theorem rj_extend (w:World) (K:Bk) (ob pm np mm:Nat) (Z:Nat→Prop) (r:Rd) (b2 gd:Nat) (hpm:pm≠mm) (hz:RJ RE0 (Gk0 K ob pm np mm) w Z (r,())) (h2:MapIs sk w b2 1 (upd (fun _=>none) moreK (fnV 24))) (hb:¬ Z b2)
 (hg:w.heap[gd]?=some (.cells #[.int .i64 0] 3 (0,0))) (hgz:¬ Z gd) (h4:4≤gd) :
 Calls Tryz.prog 23 #[.pointer (some ⟨ob,0,none⟩),.map (some b2),doneV gd] w fun e w'=>e=.returned (.tuple #[])∧∃ nm,RJ (RE1 gd) (Gk1 K ob pm np mm nm gd) w' (fun g=>Z g∨g=gd) (r,0)∧Keeps Z w w':=by
 obtain ⟨X,Y,⟨D,h1,h2X,h3X⟩,hy,hd,hs⟩:=hz.parts;have zob:Z ob:=hs ob (.inl (h2X ob (.inl (.inl rfl))));have zmm:Z mm:=hs mm (.inl (h2X mm (.inl (.inr (.inr (.inr (.inr (.inr rfl))))))));have hmb:mm≠b2:=fun e=>hb (e ▸ zmm)
 refine (outer_extend2 w ob b2 29 0 1 #[] #[.pointer (some ⟨gd,0,none⟩)] (r.oc (Gk0 K ob pm np mm) D) (fun _=>none) _ h1.oc h1.mm h2 hmb (by decide)).mono ?_
 rintro e w' ⟨he,hoc,hmm,k⟩;rw [over_more] at hmm;have k:Keeps (fun g=>g=ob∨g=mm) w w':=k
 obtain ⟨n1,n2,n3,n4,n5⟩:=h1.obn;obtain ⟨m1,m2,m3,m4⟩:=h1.qn;have kz:Keeps Z w w':=k.mono (fun g _ e=>e.elim (fun e=>by rw [e];exact zob) (fun e=>by rw [e];exact zmm))
 have hr0:RRd0 w' (Gk1 K ob pm np mm (0+1) gd) D r:=by
  refine ⟨h1.fvOb k (fun g hg=>.inl (hg.elim .inl (fun e=>.inr (.inr (.inr (.inr (.inr e))))))),hoc,h1.src.keeps k (fun e=>e.elim n1 (fun e=>m4 e.symm)),h1.ord.keeps k (fun g hg e=>?_),h1.mks.keeps k (fun g hg e=>?_),h1.pm.keeps k (fun e=>e.elim n4 hpm),hmm,h1.ap,h1.ok⟩
  · rcases e with e | e
    · exact n2 (hg.trans (congrArg some e))
    · exact ne_mapO h1.mm h1.ord (hg.trans (congrArg some e))
  · rcases e with e | e
    · exact n3 (hg.trans (congrArg some e))
    · exact ne_mapO h1.mm h1.mks (hg.trans (congrArg some e))
 refine ⟨he,0+1,⟨⟨X,fun g=>g=gd,⟨D,hr0,h2X,fun g hg=>Nat.lt_of_lt_of_le (h3X g hg) k.size⟩,⟨fun g hg=>hg,rfl,kz.heap hg hgz⟩,fun g g1 g2=>hgz (by rw [← (show g=gd from g2)];exact hs g (.inl g1)),fun g hg=>hg.elim (fun h=>.inl (hs g (.inl h))) .inr⟩,?_,?_,?_⟩,kz⟩
 · rintro g (hg' | hg')
   · exact Nat.lt_of_lt_of_le (hz.lt g hg') k.size
   · rw [hg'];exact Nat.lt_of_lt_of_le (lt_of_heap hg) k.size
 · exact hz.gl.1.keeps kz hz.gl.2
 · rintro g hl (hg' | hg')
   · exact hz.gl.2 g hl hg'
   · omega
section
variable {α β:Type} {EA:Ext α} {EB:Ext β} {RA:World→(Nat→Prop)→α→Prop} {RB:World→(Nat→Prop)→β→Prop} {GA GB:Gk}
structure Duo (RA:World→(Nat→Prop)→α→Prop) (RB:World→(Nat→Prop)→β→Prop) (GA GB:Gk) (w:World) (ZA ZB:Nat→Prop) (qa:Rd × α) (qb:Rd × β):Prop where
 a:RJ RA GA w ZA qa
 b:RJ RB GB w ZB qb
 d:∀ g,ZA g→¬ ZB g
theorem RJ.apart (ok:ExtOk EB RB GB) {w w':World} {Z S:Nat→Prop} {q:Rd × β} (h:RJ RB GB w Z q) (k:Keeps S w w') (n:∀ g,Z g→¬ S g) (hg:Glo w'):RJ RB GB w' Z q:=by
 obtain ⟨X,Y,h1,h2,h3,h4⟩:=h.parts;exact ⟨⟨X,Y,h1.keeps k (fun g hg=>n g (h4 g (.inl hg))),ok.keeps h2 k (fun g hg=>n g (h4 g (.inr hg))),h3,h4⟩,fun g hg=>Nat.lt_of_lt_of_le (h.lt g hg) k.size,hg,h.gl.2⟩
theorem Duo.stepA (okB:ExtOk EB RB GB) {w w':World} {ZA ZB ZA':Nat→Prop} {qa qa':Rd × α} {qb:Rd × β} (h:Duo RA RB GA GB w ZA ZB qa qb) (j:RJ RA GA w' ZA' qa') (e:Evo w ZA w' ZA'):Duo RA RB GA GB w' ZA' ZB qa' qb :=
 ⟨j,h.b.apart okB e.k (fun g hb ha=>h.d g ha hb) j.gl.1,fun g ha hb=>(e.n g ha).elim (fun ha=>h.d g ha hb) (fun hs=>by have:=h.b.lt g hb;omega)⟩
theorem Duo.stepB (okA:ExtOk EA RA GA) {w w':World} {ZA ZB ZB':Nat→Prop} {qa:Rd × α} {qb qb':Rd × β} (h:Duo RA RB GA GB w ZA ZB qa qb) (j:RJ RB GB w' ZB' qb') (e:Evo w ZB w' ZB'):Duo RA RB GA GB w' ZA ZB' qa qb' :=
 ⟨h.a.apart okA e.k (fun g ha hb=>h.d g ha hb) j.gl.1,j,fun g ha hb=>(e.n g hb).elim (fun hb=>h.d g ha hb) (fun hs=>by have:=h.a.lt g ha;omega)⟩
theorem Duo.keeps0 (okA:ExtOk EA RA GA) (okB:ExtOk EB RB GB) {w w':World} {ZA ZB:Nat→Prop} {qa:Rd × α} {qb:Rd × β} (h:Duo RA RB GA GB w ZA ZB qa qb) (k:Keeps (fun _=>False) w w'):Duo RA RB GA GB w' ZA ZB qa qb :=
 ⟨h.a.keeps0 okA k,h.b.keeps0 okB k,h.d⟩
theorem RJ.pr (ok:ExtOk EA RA GA) {w wa:World} {Z:Nat→Prop} {q:Rd × α} (hz:RJ RA GA w Z q) {f:Nat} {args:Array Value} {F:Rd × Int} (hc:∀ X,RRd w GA X q.1→(∀ g,X g→Z g)→Calls Tryz.prog f args wa (PR GA X w F)) :
 Calls Tryz.prog f args wa (PJ RA GA Z w ((F.1,q.2),F.2)):=by
 obtain ⟨X,Y,h1,h2,h3,h4⟩:=hz.parts;exact (hc X h1 (fun g hg=>h4 g (.inl hg))).mono fun e w' ⟨he,X',hr,ev⟩=>⟨he,RJ.of ok hz h1 h2 h3 h4 hr ev⟩
theorem RJ.pru (ok:ExtOk EA RA GA) {w:World} {Z:Nat→Prop} {q:Rd × α} (hz:RJ RA GA w Z q) {f:Nat} {args:Array Value} {r':Rd} (hc:∀ X,RRd w GA X q.1→(∀ g,X g→Z g)→Calls Tryz.prog f args w (PRu GA X w r')) :
 Calls Tryz.prog f args w (PJu RA GA Z w (r',q.2)):=by
 obtain ⟨X,Y,h1,h2,h3,h4⟩:=hz.parts;exact (hc X h1 (fun g hg=>h4 g (.inl hg))).mono fun e w' ⟨he,X',hr,ev⟩=>⟨he,RJ.of ok hz h1 h2 h3 h4 hr ev⟩
theorem RJ.prv {γ:Type} {V:γ→Value} (ok:ExtOk EA RA GA) {w:World} {Z:Nat→Prop} {q:Rd × α} (hz:RJ RA GA w Z q) {f:Nat} {args:Array Value} {F:Rd × γ × Int} (hc:∀ X,RRd w GA X q.1→(∀ g,X g→Z g)→Calls Tryz.prog f args w (PRv V GA X w F)) :
 Calls Tryz.prog f args w fun e w'=>e=.returned (.tuple #[V F.2.1,.int .i64 F.2.2])∧∃ Z',RJ RA GA w' Z' (F.1,q.2)∧Evo w Z w' Z':=by
 obtain ⟨X,Y,h1,h2,h3,h4⟩:=hz.parts;exact (hc X h1 (fun g hg=>h4 g (.inl hg))).mono fun e w' ⟨he,X',hr,ev⟩=>⟨he,RJ.of ok hz h1 h2 h3 h4 hr ev⟩
end
end Go.Proofs.Shed
