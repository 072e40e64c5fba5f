/- A part of WalkG. No condition. -/
import Derived.Test.YthhfkhhhclmimaaGreatDoorM08
import Derived.Test.YthhfkhhhclmimaaGreatDoorProg
import Derived.Deep.Slices
set_option linter.unusedVariables false
set_option linter.unusedSimpArgs false
open Go.Proofs.Tryz
set_option maxRecDepth 10000
namespace Go.Proofs.dS
open Go Go.RowKit Go.Proofs.K
inductive Pk where
 | plain (f:Nat)
 | with_ (n:Int) (f:Nat)
 | push (f:Nat)
 | moves (n:Int) (l:List Int)
 | look (f:Nat)
 | two (op:List UInt8)
 | one (op:List UInt8)
 deriving DecidableEq
def bY(f:Nat):Value:=.func (.func f) #[] #[]
def CS(X:Nat->Prop)(w:World)(a:Value)(u:Value):Prop:=∃ g t,a=cD g/\X g/\w.heap[g]?=some (.cells #[u] t (0,0))
def EX(w:World)(g:Nat):Prop:=∀ cs t f,w.heap[g]?≠some (.cells cs t f)
theorem cX.jt{P:Program}{k:TypeId}{a:Type}{d:oN P k a}{w:World}{b n:Nat}{f:a->Option Value}(h:cX d w b n f):EX w b:=by
 obtain⟨D,⟨j,g,c,_⟩,_⟩:=h;intro i t f e;rw[c]at e;cases e
def je(X:Nat->Prop)(w w':World):Prop:=∀ g cs t f,X g->w.heap[g]?=some (.cells cs t f)->w'.heap[g]?=some (.cells cs t f)
theorem je.of{S X:Nat->Prop}{w w':World}(k:cq S w w')(h:∀ g,X g->S g->EX w g):je X w w':=fun g _ _ _ c a=>k.heap a (fun b=>h g c b _ _ _ a)
theorem je.kt{X:Nat->Prop}{w w':World}(k:K_ w w'):je X w w':=je.of k (fun _ _ h=>h.elim)
theorem CS.ct{X:Nat->Prop}{w w':World}{a u:Value}(h:CS X w a u)(k:je X w w'):CS X w' a u:=by
 obtain⟨g,t,rfl,b,c⟩:=h;exact⟨g,t,rfl,b,k g _ _ _ b c⟩
theorem CS.mono{X Y:Nat->Prop}{w:World}{a u:Value}(h:CS X w a u)(k:∀ g,g<w.heap.size->X g->Y g):CS Y w a u:=by
 obtain⟨g,t,rfl,c,b⟩:=h;exact⟨g,t,rfl,k g (cA b) c,b⟩
def so(X:Nat->Prop)(w:World)(n:Int)(d:Value)(v:Value):Prop:=∃ a b,v=.func (.func 406) #[] #[a,b]/\CS X w a (I_ n)/\CS X w b d
theorem so.ct{X:Nat->Prop}{w w':World}{n:Int}{d v:Value}(h:so X w n d v)(k:je X w w'):so X w' n d v:=by
 obtain⟨a,b,rfl,c,e⟩:=h;exact⟨a,b,rfl,c.ct k,e.ct k⟩
theorem so.mono{X Y:Nat->Prop}{w:World}{n:Int}{d v:Value}(h:so X w n d v)(k:∀ g,g<w.heap.size->X g->Y g):so Y w n d v:=by
 obtain⟨a,b,rfl,c,e⟩:=h;exact⟨a,b,rfl,c.mono k,e.mono k⟩
def Good(X:Nat->Prop)(w:World):Pk->Value->Prop
 | .plain f,v=>v=bY f
 | .with_ n f,v=>so X w n (bY f) v
 | .push f,v=>∃ a,v=.func (.func 405) #[] #[a]/\CS X w a (bY f)
 | .moves n l,v=>∃ a b s c,v=.func (.func 409) #[] #[a,b]/\CS X w a (I_ n)/\CS X w b (.slice s l.length c)/\fp w 3 1 s l.length c (l.map (Value.int .i64))/\∀ g,dF s=some g->X g
 | .look f,v=>∃ a,so X w 1 (.func (.func 413) #[] #[a]) v/\CS X w a (bY f)
 | .two op,v=>∃ a,so X w 2 (.func (.func 320) #[] #[a]) v/\CS X w a (S_ op)
 | .one op,v=>∃ a,so X w 1 (.func (.func 322) #[] #[a]) v/\CS X w a (S_ op)
theorem GX{X:Nat->Prop}{w w':World}{e:TypeId}{d:Nat}{a:Option Addr}{n c:Nat}{f:List Value}(h:fp w e d a n c f)(k:je X w w')(m:∀ g,dF a=some g->X g):fp w' e d a n c f:=by
 refine⟨h.1,?_⟩;rcases h.2 with h | ⟨g,i,cur,b,j,l,r⟩
 . exact .inl h
 . refine .inr ⟨g,i,cur,b,j,k g _ _ _ (m g ?_) l,r⟩
   cases b;rfl
theorem Good.ct{X:Nat->Prop}{w w':World}{g:Pk}{v:Value}(h:Good X w g v)(k:je X w w'):Good X w' g v:=by
 cases g with
 | plain f=>exact h
 | with_ n f=>exact so.ct h k
 | push f =>
  obtain⟨a,rfl,d⟩:=h;exact⟨a,rfl,d.ct k⟩
 | moves n l =>
  obtain⟨a,b,s,c,rfl,d,e,j,i⟩:=h;exact⟨a,b,s,c,rfl,d.ct k,e.ct k,GX j k i,i⟩
 | look f =>
  obtain⟨a,d,e⟩:=h;exact⟨a,d.ct k,e.ct k⟩
 | two m =>
  obtain⟨a,d,e⟩:=h;exact⟨a,d.ct k,e.ct k⟩
 | one m =>
  obtain⟨a,d,e⟩:=h;exact⟨a,d.ct k,e.ct k⟩
theorem Good.mono{X Y:Nat->Prop}{w:World}{i:Pk}{v:Value}(h:Good X w i v)(k:∀ g,g<w.heap.size->X g->Y g):Good Y w i v:=by
 cases i with
 | plain f=>exact h
 | with_ n f=>exact so.mono h k
 | push f =>
  obtain⟨a,rfl,d⟩:=h;exact⟨a,rfl,d.mono k⟩
 | moves n l =>
  obtain⟨a,b,s,c,rfl,d,e,j,o⟩:=h;exact⟨a,b,s,c,rfl,d.mono k,e.mono k,j,fun g m=>k g (fp.lt j m) (o g m)⟩
 | look f =>
  obtain⟨a,d,e⟩:=h;exact⟨a,d.mono k,e.mono k⟩
 | two p =>
  obtain⟨a,d,e⟩:=h;exact⟨a,d.mono k,e.mono k⟩
 | one p =>
  obtain⟨a,d,e⟩:=h;exact⟨a,d.mono k,e.mono k⟩
theorem xL:Go.Maps.Keyed prog 9:=Go.Maps.string_keyed underlying9
theorem Kr(s:List UInt8)(a:s.length<=maxLen):keyOf prog 9 (S_ s)=some (.string s):=(Ko underlying9).reads s a
theorem Rk(v:Value)(a:Lit)(h:keyOf prog 9 v=some a):∃ s:List UInt8,s.length<=maxLen/\v=S_ s/\a=.string s:=(Ko underlying9).inv v a h
def sk:oN Tryz.prog 9 (List UInt8) where
 val s:=S_ s
 lit s:=.string s
 ok s:=s.length<=maxLen
 kd:=xL
 reads:=Kr
 inv:=Rk
 inj x y h:=by injection h
 NW x:=trivial
def lZ(X:Nat->Prop)(w:World)(K:List UInt8->Option Pk)(f:List UInt8->Option Value):Prop:=∀ s,match K s with
 | none=>f s=none
 | some kd=>∃ v,f s=some v/\Good X w kd v
theorem lZ.ct{X:Nat->Prop}{w w':World}{K:List UInt8->Option Pk}{f:List UInt8->Option Value}(h:lZ X w K f)(k:je X w w'):lZ X w' K f:=by
 intro s;have a:=h s;cases b:K s with
 | none=>simp only[b]at a |-;exact a
 | some e =>
  simp only[b]at a |-;obtain⟨v,c,d⟩:=a;exact⟨v,c,d.ct k⟩
theorem lZ.mono{X Y:Nat->Prop}{w:World}{K:List UInt8->Option Pk}{f:List UInt8->Option Value}(h:lZ X w K f)(k:∀ g,g<w.heap.size->X g->Y g):lZ Y w K f:=by
 intro s;have a:=h s;cases b:K s with
 | none=>simp only[b]at a |-;exact a
 | some e =>
  simp only[b]at a |-;obtain⟨v,c,d⟩:=a;exact⟨v,c,d.mono k⟩
def Yn(K:List UInt8->Option Pk)(x:List UInt8)(kd:Pk):List UInt8->Option Pk:=fun y=>if y=x then some kd else K y
theorem lZ.put{X:Nat->Prop}{w:World}{K:List UInt8->Option Pk}{f:List UInt8->Option Value}(h:lZ X w K f)(x:List UInt8){a:Pk}{v:Value}(g:Good X w a v):lZ X w (Yn K x a) (ny f x v):=by
 intro s;unfold Yn ny;by_cases e:s=x
 . rw[if_pos e,if_pos e];exact⟨v,rfl,g⟩
 . rw[if_neg e,if_neg e];exact h s
def gn(w0 w:World)(b n:Nat)(K:List UInt8->Option Pk):Prop :=
 ∃ f,cX sk w b n f/\lZ (fun g=>w0.heap.size<=g) w K f/\w0.heap.size<=b/\K_ w0 w
theorem gn.kf(w:World):gn w (w.alloc (.map #[] 0)) w.heap.size 0 (fun _=>none):=⟨_,cX.kf sk w,fun _=>rfl,Nat.le_refl _,cq.alloc _ _ _⟩
theorem gn.ct{a w w':World}{b n:Nat}{K:List UInt8->Option Pk}(h:gn a w b n K)(k:K_ w w'):gn a w' b n K:=by
 obtain⟨f,c,d,e,g⟩:=h;exact⟨f,c.ct k id,d.ct (je.kt k),e,g.trans k⟩
theorem gn.size{a w:World}{b n:Nat}{K:List UInt8->Option Pk}(h:gn a w b n K):a.heap.size<=w.heap.size:=by
 obtain⟨f,d,e,g,c⟩:=h;exact c.size
theorem cK{d:World}(w:World){p:Array Oper}{q:List Oper}{o:Oper}{a:Act}{Q:Exit->Act->World->Prop}(B:o.guard=none)(m x v:Operand)(D:o.op=Op.mapUpdate 235 m x v\/o.op=Op.insert 235 m x v)(b n:Nat)(K:List UInt8->Option Pk)
 (C:a.eval m=.map (some b)) (E:gn d w b n K) (I:n<1000) (s:List UInt8) (F:s.length<=1000) (h:Value) (c:a.eval x=S_ s) (G:a.eval v=h) (l:Pk) (r:Good (fun g=>d.heap.size<=g) w l h)
 (A:∀ w',gn d w' b (n+1) (Yn K s l)->wpList prog p Q q (a.put o.dst undef) w'):wpList prog p Q (o :: q) a w:=by
 obtain⟨f,j,t,u,y⟩:=E;refine jM sk w B m x v 235 D _ underlying235 b n f C j (by unfold maxLen;omega) s (Nat.le_trans F (by unfold maxLen;omega)) h c G ?_;intro w' z k
 have c:=je.of (X:=fun g=>d.heap.size<=g) k (fun g _ e=>by
  have e:g=b:=e
  rw[e];exact cX.jt j)
 exact A w' ⟨_,z,(t.ct c).put s (r.ct c),u,y.dh k (fun i H e=>by
  have e:i=b:=e
  omega)⟩
def kg(w:World)(n:Nat)(K:List UInt8->Option Pk)(e:Ending)(w':World):Prop:=∃ b,e=.returned (.map (some b))/\gn w w' b n K
set_option maxHeartbeats 2000000
theorem zK(c:Fn)(b a:Array Value)(w:World):(Instr.makeFunc c b a).run prog w=.ok (.func c b a) w:=rfl
theorem kh(w:World)(a b:Obj):((w.alloc a).alloc b).heap[w.heap.size+1]?=some b:=by
 have h:=cx (w.alloc a) b
 rwa [show(w.alloc a).heap.size=w.heap.size+1 by simp]at h
theorem tW(w:World)(B:Nat)(hB:B<=w.heap.size)(n:Int)(fn:Fn)(cap:Array Value):Calls prog 299 #[I_ n,.func fn #[] cap] w fun e w'=>∃ v,e=.returned v/\so (fun g=>B<=g) w' n (.func fn #[] cap) v/\K_ w w':=by
 have zK:=zK;go_enter func299,ntmps299;go_wp2;go_ret;refine⟨_,rfl,⟨_,_,rfl,⟨w.heap.size,3,rfl,hB,?_⟩,⟨w.heap.size+1,368,rfl,Nat.le_succ_of_le hB,?_⟩⟩,(cq.alloc _ _ _).trans (cq.alloc _ _ _)⟩
 . exact(dp _ _ (by simp)).trans (cx w _)
 . exact kh _ _ _
theorem ee(w:World)(B:Nat)(b:B<=w.heap.size)(n:Int)(a:Nat):Calls prog 299 #[I_ n,.func (.func a) #[] #[]] w fun e w'=>∃ v,e=.returned v/\Good (fun g=>B<=g) w' (.with_ n a) v/\K_ w w':=tW w B b n (.func a) #[]
theorem kM(w:World)(B:Nat)(hB:B<=w.heap.size)(fn:Nat):Calls prog 296 #[.func (.func fn) #[] #[]] w fun e w'=>∃ v,e=.returned v/\Good (fun g=>B<=g) w' (.push fn) v/\K_ w w':=by
 have zK:=zK;go_enter func296,ntmps296;go_wp2;go_ret;exact⟨_,rfl,⟨_,rfl,⟨w.heap.size,_,rfl,hB,cx w _⟩⟩,cq.alloc _ _ _⟩
theorem EY(w:World)(B:Nat)(hB:B<=w.heap.size)(fn:Nat):Calls prog 323 #[.func (.func fn) #[] #[]] w fun e w'=>∃ v,e=.returned v/\Good (fun g=>B<=g) w' (.look fn) v/\K_ w w':=by
 have zK:=zK;have hW:=h_ fun (V:World) (h:B<=V.heap.size)=>tW V B h 1 (.func 413) #[cD w.heap.size];go_enter func323,ntmps323;go_wp2_with fail;refine(hW.out _ (by simp;have:=hB;omega)).mono ?_;rintro e w1 ⟨v,rfl,h1,k1⟩;go_wp2;go_ret;exact⟨_,rfl,⟨_,h1,⟨w.heap.size,_,rfl,hB,k1.heap (cx w _) id⟩⟩,(cq.alloc _ _ _).trans k1⟩
theorem pz(w:World)(e:TypeId)(a:List Value)(n g:Nat)(h:a.length=n)(b:w.heap.size=g)(c:n<=maxLen):fp (w.alloc (.cells a.toArray e)) e 1 (some ⟨g,0,none⟩) n n a:=by
 subst b;refine⟨by rw[h];simp,.inr ⟨w.heap.size,n,_,rfl,Nat.zero_le _,cx _ _,Nat.le_refl _,c,by simpa using h,?_⟩⟩;show a.take (n*1)=a;rw[Nat.mul_one,<- h];exact List.take_length
theorem lD(w:World)(B:Nat)(hB:B<=w.heap.size)(n:Int)(s:Option Addr)(m c:Nat)(l:List Int)(hl:l.length=m)(ho:fp w 3 1 s m c (l.map (Value.int .i64)))(hs:∀ g,dF s=some g->B<=g) :
 Calls prog 312 #[I_ n,.slice s m c] w fun e w'=>∃ v,e=.returned v/\Good (fun g=>B<=g) w' (.moves n l) v/\K_ w w':=by
 have zK:=zK;go_enter func312,ntmps312;go_wp2;go_ret;refine⟨_,rfl,⟨cD w.heap.size,cD (w.heap.size+1),s,c,rfl,⟨w.heap.size,3,rfl,hB,(dp _ _ (by simp)).trans (cx w _)⟩,⟨w.heap.size+1,402,rfl,Nat.le_succ_of_le hB,?_⟩,?_,hs⟩,(cq.alloc _ _ _).trans (cq.alloc _ _ _)⟩
 . rw[hl];exact kh _ _ _
 . rw[hl]
   exact ho.ct ((dR _ _).trans (cq.alloc _ _ _)) (fun _ _=>id)
set_option maxHeartbeats 4000000
def mP:List UInt8->Option Pk:=Yn (Yn (Yn (Yn (Yn (Yn (Yn (fun _=>none) [101,109,105,116] (.with_ 1 342)) [99,114] (.plain 343)) [115,112,97,99,101] (.plain 344)) [116,121,112,101] (.with_ 2 345)) [46] (.with_ 1 346)) [117,46] (.with_ 1 348)) [107,101,121] (.push 349)
theorem CT(w:World):Calls prog 203 #[] w (kg w 7 mP):=by
 have h:=@run_makeMap prog;have a:=gn.kf w;go_enter func203,ntmps203;go_wp2_with fail;refine(ee _ _ a.size 1 342).mono ?_;rintro e g ⟨v,rfl,d,c⟩;replace a:=a.ct c;clear c
 go_wp2_with (first
  | (refine cK _ rfl _ _ _ (.inr rfl) _ 0 _ rfl a (by decide) [101,109,105,116] (by decide) v rfl rfl (.with_ 1 342) d ?_;intro f b;replace a:=b;clear b)
  | (refine cK _ rfl _ _ _ (.inr rfl) _ 1 _ rfl a (by decide) [99,114] (by decide) (bY 343) rfl rfl (.plain 343) rfl ?_;intro f b;replace a:=b;clear b)
  | (refine cK _ rfl _ _ _ (.inr rfl) _ 2 _ rfl a (by decide) [115,112,97,99,101] (by decide) (bY 344) rfl rfl (.plain 344) rfl ?_;intro f b;replace a:=b;clear b))
 refine(ee _ _ a.size 2 345).mono ?_;rintro e g ⟨v,rfl,d,c⟩;replace a:=a.ct c;clear c
 go_wp2_with (first
  | (refine cK _ rfl _ _ _ (.inr rfl) _ 3 _ rfl a (by decide) [116,121,112,101] (by decide) v rfl rfl (.with_ 2 345) d ?_;intro f b;replace a:=b;clear b))
 refine(ee _ _ a.size 1 346).mono ?_;rintro e g ⟨v,rfl,d,c⟩;replace a:=a.ct c;clear c
 go_wp2_with (first
  | (refine cK _ rfl _ _ _ (.inr rfl) _ 4 _ rfl a (by decide) [46] (by decide) v rfl rfl (.with_ 1 346) d ?_;intro f b;replace a:=b;clear b))
 refine(ee _ _ a.size 1 348).mono ?_;rintro e g ⟨v,rfl,d,c⟩;replace a:=a.ct c;clear c
 go_wp2_with (first
  | (refine cK _ rfl _ _ _ (.inr rfl) _ 5 _ rfl a (by decide) [117,46] (by decide) v rfl rfl (.with_ 1 348) d ?_;intro f b;replace a:=b;clear b))
 refine(kM _ _ a.size 349).mono ?_;rintro e g ⟨v,rfl,d,c⟩;replace a:=a.ct c;clear c
 go_wp2_with (first
  | (refine cK _ rfl _ _ _ (.inr rfl) _ 6 _ rfl a (by decide) [107,101,121] (by decide) v rfl rfl (.push 349) d ?_;intro f b;replace a:=b;clear b))
 go_ret;exact⟨_,rfl,a⟩
def lE:List UInt8->Option Pk:=Yn (Yn (Yn (Yn (fun _=>none) [99,97,116,99,104] (.with_ 1 350)) [40,99,97,117,103,104,116,41] (.plain 351)) [116,104,114,111,119] (.with_ 1 353)) [97,98,111,114,116] (.plain 354)
theorem Ap(w:World):Calls prog 204 #[] w (kg w 4 lE):=by
 have h:=@run_makeMap prog;have a:=gn.kf w;go_enter func204,ntmps204;go_wp2_with fail;refine(ee _ _ a.size 1 350).mono ?_;rintro e g ⟨v,rfl,d,c⟩;replace a:=a.ct c;clear c
 go_wp2_with (first
  | (refine cK _ rfl _ _ _ (.inr rfl) _ 0 _ rfl a (by decide) [99,97,116,99,104] (by decide) v rfl rfl (.with_ 1 350) d ?_;intro f b;replace a:=b;clear b)
  | (refine cK _ rfl _ _ _ (.inr rfl) _ 1 _ rfl a (by decide) [40,99,97,117,103,104,116,41] (by decide) (bY 351) rfl rfl (.plain 351) rfl ?_;intro f b;replace a:=b;clear b))
 refine(ee _ _ a.size 1 353).mono ?_;rintro e g ⟨v,rfl,d,c⟩;replace a:=a.ct c;clear c
 go_wp2_with (first
  | (refine cK _ rfl _ _ _ (.inr rfl) _ 2 _ rfl a (by decide) [116,104,114,111,119] (by decide) v rfl rfl (.with_ 1 353) d ?_;intro f b;replace a:=b;clear b)
  | (refine cK _ rfl _ _ _ (.inr rfl) _ 3 _ rfl a (by decide) [97,98,111,114,116] (by decide) (bY 354) rfl rfl (.plain 354) rfl ?_;intro f b;replace a:=b;clear b))
 go_ret;exact⟨_,rfl,a⟩
def mQ:List UInt8->Option Pk:=Yn (Yn (Yn (Yn (Yn (Yn (Yn (fun _=>none) [115,101,108,102] (.push 355)) [110,101,119] (.with_ 1 356)) [99,108,97,115,115,111,102] (.with_ 1 358)) [40,115,101,110,100,41] (.with_ 1 360)) [40,99,97,108,108,41] (.with_ 1 362)) [40,115,117,112,101,114,41] (.plain 364)) [40,101,120,105,116,109,41] (.plain 365)
theorem CU(w:World):Calls prog 205 #[] w (kg w 7 mQ):=by
 have h:=@run_makeMap prog;have a:=gn.kf w;go_enter func205,ntmps205;go_wp2_with fail;refine(kM _ _ a.size 355).mono ?_;rintro e g ⟨v,rfl,d,c⟩;replace a:=a.ct c;clear c
 go_wp2_with (first
  | (refine cK _ rfl _ _ _ (.inr rfl) _ 0 _ rfl a (by decide) [115,101,108,102] (by decide) v rfl rfl (.push 355) d ?_;intro f b;replace a:=b;clear b))
 refine(ee _ _ a.size 1 356).mono ?_;rintro e g ⟨v,rfl,d,c⟩;replace a:=a.ct c;clear c
 go_wp2_with (first
  | (refine cK _ rfl _ _ _ (.inr rfl) _ 1 _ rfl a (by decide) [110,101,119] (by decide) v rfl rfl (.with_ 1 356) d ?_;intro f b;replace a:=b;clear b))
 refine(ee _ _ a.size 1 358).mono ?_;rintro e g ⟨v,rfl,d,c⟩;replace a:=a.ct c;clear c
 go_wp2_with (first
  | (refine cK _ rfl _ _ _ (.inr rfl) _ 2 _ rfl a (by decide) [99,108,97,115,115,111,102] (by decide) v rfl rfl (.with_ 1 358) d ?_;intro f b;replace a:=b;clear b))
 refine(ee _ _ a.size 1 360).mono ?_;rintro e g ⟨v,rfl,d,c⟩;replace a:=a.ct c;clear c
 go_wp2_with (first
  | (refine cK _ rfl _ _ _ (.inr rfl) _ 3 _ rfl a (by decide) [40,115,101,110,100,41] (by decide) v rfl rfl (.with_ 1 360) d ?_;intro f b;replace a:=b;clear b))
 refine(ee _ _ a.size 1 362).mono ?_;rintro e g ⟨v,rfl,d,c⟩;replace a:=a.ct c;clear c
 go_wp2_with (first
  | (refine cK _ rfl _ _ _ (.inr rfl) _ 4 _ rfl a (by decide) [40,99,97,108,108,41] (by decide) v rfl rfl (.with_ 1 362) d ?_;intro f b;replace a:=b;clear b)
  | (refine cK _ rfl _ _ _ (.inr rfl) _ 5 _ rfl a (by decide) [40,115,117,112,101,114,41] (by decide) (bY 364) rfl rfl (.plain 364) rfl ?_;intro f b;replace a:=b;clear b)
  | (refine cK _ rfl _ _ _ (.inr rfl) _ 6 _ rfl a (by decide) [40,101,120,105,116,109,41] (by decide) (bY 365) rfl rfl (.plain 365) rfl ?_;intro f b;replace a:=b;clear b))
 go_ret;exact⟨_,rfl,a⟩
def mR:List UInt8->Option Pk:=Yn (Yn (Yn (Yn (Yn (Yn (Yn (Yn (Yn (Yn (Yn (Yn (Yn (fun _=>none) [64] (.look 324)) [99,64] (.look 325)) [33] (.with_ 2 327)) [99,33] (.with_ 2 328)) [43,33] (.with_ 2 330)) [104,101,114,101] (.push 331)) [97,108,108,111,116] (.with_ 1 332)) [44] (.with_ 1 333)) [99,44] (.with_ 1 334)) [97,108,105,103,110] (.plain 335)) [97,108,108,111,99,97,116,101] (.with_ 1 336)) [102,114,101,101] (.with_ 1 338)) [114,101,115,105,122,101] (.with_ 2 340)
theorem CV(w:World):Calls prog 202 #[] w (kg w 13 mR):=by
 have h:=@run_makeMap prog;have a:=gn.kf w;go_enter func202,ntmps202;go_wp2_with fail;refine(EY _ _ a.size 324).mono ?_;rintro e g ⟨v,rfl,d,c⟩;replace a:=a.ct c;clear c
 go_wp2_with (first
  | (refine cK _ rfl _ _ _ (.inr rfl) _ 0 _ rfl a (by decide) [64] (by decide) v rfl rfl (.look 324) d ?_;intro f b;replace a:=b;clear b))
 refine(EY _ _ a.size 325).mono ?_;rintro e g ⟨v,rfl,d,c⟩;replace a:=a.ct c;clear c
 go_wp2_with (first
  | (refine cK _ rfl _ _ _ (.inr rfl) _ 1 _ rfl a (by decide) [99,64] (by decide) v rfl rfl (.look 325) d ?_;intro f b;replace a:=b;clear b))
 refine(ee _ _ a.size 2 327).mono ?_;rintro e g ⟨v,rfl,d,c⟩;replace a:=a.ct c;clear c
 go_wp2_with (first
  | (refine cK _ rfl _ _ _ (.inr rfl) _ 2 _ rfl a (by decide) [33] (by decide) v rfl rfl (.with_ 2 327) d ?_;intro f b;replace a:=b;clear b))
 refine(ee _ _ a.size 2 328).mono ?_;rintro e g ⟨v,rfl,d,c⟩;replace a:=a.ct c;clear c
 go_wp2_with (first
  | (refine cK _ rfl _ _ _ (.inr rfl) _ 3 _ rfl a (by decide) [99,33] (by decide) v rfl rfl (.with_ 2 328) d ?_;intro f b;replace a:=b;clear b))
 refine(ee _ _ a.size 2 330).mono ?_;rintro e g ⟨v,rfl,d,c⟩;replace a:=a.ct c;clear c
 go_wp2_with (first
  | (refine cK _ rfl _ _ _ (.inr rfl) _ 4 _ rfl a (by decide) [43,33] (by decide) v rfl rfl (.with_ 2 330) d ?_;intro f b;replace a:=b;clear b))
 refine(kM _ _ a.size 331).mono ?_;rintro e g ⟨v,rfl,d,c⟩;replace a:=a.ct c;clear c
 go_wp2_with (first
  | (refine cK _ rfl _ _ _ (.inr rfl) _ 5 _ rfl a (by decide) [104,101,114,101] (by decide) v rfl rfl (.push 331) d ?_;intro f b;replace a:=b;clear b))
 refine(ee _ _ a.size 1 332).mono ?_;rintro e g ⟨v,rfl,d,c⟩;replace a:=a.ct c;clear c
 go_wp2_with (first
  | (refine cK _ rfl _ _ _ (.inr rfl) _ 6 _ rfl a (by decide) [97,108,108,111,116] (by decide) v rfl rfl (.with_ 1 332) d ?_;intro f b;replace a:=b;clear b))
 refine(ee _ _ a.size 1 333).mono ?_;rintro e g ⟨v,rfl,d,c⟩;replace a:=a.ct c;clear c
 go_wp2_with (first
  | (refine cK _ rfl _ _ _ (.inr rfl) _ 7 _ rfl a (by decide) [44] (by decide) v rfl rfl (.with_ 1 333) d ?_;intro f b;replace a:=b;clear b))
 refine(ee _ _ a.size 1 334).mono ?_;rintro e g ⟨v,rfl,d,c⟩;replace a:=a.ct c;clear c
 go_wp2_with (first
  | (refine cK _ rfl _ _ _ (.inr rfl) _ 8 _ rfl a (by decide) [99,44] (by decide) v rfl rfl (.with_ 1 334) d ?_;intro f b;replace a:=b;clear b)
  | (refine cK _ rfl _ _ _ (.inr rfl) _ 9 _ rfl a (by decide) [97,108,105,103,110] (by decide) (bY 335) rfl rfl (.plain 335) rfl ?_;intro f b;replace a:=b;clear b))
 refine(ee _ _ a.size 1 336).mono ?_;rintro e g ⟨v,rfl,d,c⟩;replace a:=a.ct c;clear c
 go_wp2_with (first
  | (refine cK _ rfl _ _ _ (.inr rfl) _ 10 _ rfl a (by decide) [97,108,108,111,99,97,116,101] (by decide) v rfl rfl (.with_ 1 336) d ?_;intro f b;replace a:=b;clear b))
 refine(ee _ _ a.size 1 338).mono ?_;rintro e g ⟨v,rfl,d,c⟩;replace a:=a.ct c;clear c
 go_wp2_with (first
  | (refine cK _ rfl _ _ _ (.inr rfl) _ 11 _ rfl a (by decide) [102,114,101,101] (by decide) v rfl rfl (.with_ 1 338) d ?_;intro f b;replace a:=b;clear b))
 refine(ee _ _ a.size 2 340).mono ?_;rintro e g ⟨v,rfl,d,c⟩;replace a:=a.ct c;clear c
 go_wp2_with (first
  | (refine cK _ rfl _ _ _ (.inr rfl) _ 12 _ rfl a (by decide) [114,101,115,105,122,101] (by decide) v rfl rfl (.with_ 2 340) d ?_;intro f b;replace a:=b;clear b))
 go_ret;exact⟨_,rfl,a⟩
def re:List UInt8->Option Pk:=Yn (Yn (Yn (Yn (Yn (Yn (Yn (Yn (Yn (Yn (Yn (Yn (fun _=>none) [101,120,105,116] (.plain 295)) [108,105,116] (.push 297)) [98,114,97,110,99,104] (.plain 298)) [48,98,114,97,110,99,104] (.with_ 1 300)) [40,100,111,41] (.with_ 2 301)) [40,108,111,111,112,41] (.plain 302)) [40,43,108,111,111,112,41] (.with_ 1 304)) [105] (.push 305)) [106] (.push 306)) [117,110,108,111,111,112] (.plain 307)) [101,120,101,99,117,116,101] (.with_ 1 309)) [98,121,101] (.plain 311)
theorem Ks(w:World):Calls prog 199 #[] w (kg w 12 re):=by
 have h:=@run_makeMap prog;have a:=gn.kf w;go_enter func199,ntmps199
 go_wp2_with (first
  | (refine cK _ rfl _ _ _ (.inr rfl) _ 0 _ rfl a (by decide) [101,120,105,116] (by decide) (bY 295) rfl rfl (.plain 295) rfl ?_;intro f b;replace a:=b;clear b))
 refine(kM _ _ a.size 297).mono ?_;rintro e g ⟨v,rfl,d,c⟩;replace a:=a.ct c;clear c
 go_wp2_with (first
  | (refine cK _ rfl _ _ _ (.inr rfl) _ 1 _ rfl a (by decide) [108,105,116] (by decide) v rfl rfl (.push 297) d ?_;intro f b;replace a:=b;clear b)
  | (refine cK _ rfl _ _ _ (.inr rfl) _ 2 _ rfl a (by decide) [98,114,97,110,99,104] (by decide) (bY 298) rfl rfl (.plain 298) rfl ?_;intro f b;replace a:=b;clear b))
 refine(ee _ _ a.size 1 300).mono ?_;rintro e g ⟨v,rfl,d,c⟩;replace a:=a.ct c;clear c
 go_wp2_with (first
  | (refine cK _ rfl _ _ _ (.inr rfl) _ 3 _ rfl a (by decide) [48,98,114,97,110,99,104] (by decide) v rfl rfl (.with_ 1 300) d ?_;intro f b;replace a:=b;clear b))
 refine(ee _ _ a.size 2 301).mono ?_;rintro e g ⟨v,rfl,d,c⟩;replace a:=a.ct c;clear c
 go_wp2_with (first
  | (refine cK _ rfl _ _ _ (.inr rfl) _ 4 _ rfl a (by decide) [40,100,111,41] (by decide) v rfl rfl (.with_ 2 301) d ?_;intro f b;replace a:=b;clear b)
  | (refine cK _ rfl _ _ _ (.inr rfl) _ 5 _ rfl a (by decide) [40,108,111,111,112,41] (by decide) (bY 302) rfl rfl (.plain 302) rfl ?_;intro f b;replace a:=b;clear b))
 refine(ee _ _ a.size 1 304).mono ?_;rintro e g ⟨v,rfl,d,c⟩;replace a:=a.ct c;clear c
 go_wp2_with (first
  | (refine cK _ rfl _ _ _ (.inr rfl) _ 6 _ rfl a (by decide) [40,43,108,111,111,112,41] (by decide) v rfl rfl (.with_ 1 304) d ?_;intro f b;replace a:=b;clear b))
 refine(kM _ _ a.size 305).mono ?_;rintro e g ⟨v,rfl,d,c⟩;replace a:=a.ct c;clear c
 go_wp2_with (first
  | (refine cK _ rfl _ _ _ (.inr rfl) _ 7 _ rfl a (by decide) [105] (by decide) v rfl rfl (.push 305) d ?_;intro f b;replace a:=b;clear b))
 refine(kM _ _ a.size 306).mono ?_;rintro e g ⟨v,rfl,d,c⟩;replace a:=a.ct c;clear c
 go_wp2_with (first
  | (refine cK _ rfl _ _ _ (.inr rfl) _ 8 _ rfl a (by decide) [106] (by decide) v rfl rfl (.push 306) d ?_;intro f b;replace a:=b;clear b)
  | (refine cK _ rfl _ _ _ (.inr rfl) _ 9 _ rfl a (by decide) [117,110,108,111,111,112] (by decide) (bY 307) rfl rfl (.plain 307) rfl ?_;intro f b;replace a:=b;clear b))
 refine(ee _ _ a.size 1 309).mono ?_;rintro e g ⟨v,rfl,d,c⟩;replace a:=a.ct c;clear c
 go_wp2_with (first
  | (refine cK _ rfl _ _ _ (.inr rfl) _ 10 _ rfl a (by decide) [101,120,101,99,117,116,101] (by decide) v rfl rfl (.with_ 1 309) d ?_;intro f b;replace a:=b;clear b)
  | (refine cK _ rfl _ _ _ (.inr rfl) _ 11 _ rfl a (by decide) [98,121,101] (by decide) (bY 311) rfl rfl (.plain 311) rfl ?_;intro f b;replace a:=b;clear b))
 go_ret;exact⟨_,rfl,a⟩
def oO:List UInt8->Option Pk:=Yn (Yn (Yn (Yn (Yn (Yn (Yn (Yn (Yn (Yn (Yn (Yn (Yn (fun _=>none) [100,117,112] (.moves 1 [0,0])) [100,114,111,112] (.moves 1 [])) [115,119,97,112] (.moves 2 [1,0])) [111,118,101,114] (.moves 2 [0,1,0])) [114,111,116] (.moves 3 [1,2,0])) [110,105,112] (.moves 2 [1])) [116,117,99,107] (.moves 2 [1,0,1])) [63,100,117,112] (.with_ 1 313)) [112,105,99,107] (.with_ 1 314)) [100,101,112,116,104] (.push 315)) [62,114] (.with_ 1 316)) [114,62] (.push 317)) [114,64] (.push 318)
theorem GY(w:World):Calls prog 200 #[] w (kg w 13 oO):=by
 have i:=@run_makeMap prog;have a:=gn.kf w;go_enter func200,ntmps200;go_wp2_with fail;refine(lD _ _ (a.ct (cq.alloc _ _ _)).size 1 _ 2 _ [0,0] rfl (pz _ _ _ 2 _ rfl (by first | rfl | simp) (by decide)) (fun g e=>by cases e;first | exact a.size | exact Nat.le_succ _)).mono ?_;rintro e f ⟨v,rfl,d,c⟩;replace a:=(a.ct (cq.alloc _ _ _)).ct c;clear c
 go_wp2_with (first
  | (refine cK _ rfl _ _ _ (.inr rfl) _ 0 _ rfl a (by decide) [100,117,112] (by decide) v rfl rfl (.moves 1 [0,0]) d ?_;intro h b;replace a:=b;clear b))
 refine(lD _ _ a.size 1 none 0 0 [] rfl (fp.nil _ _ _) (fun g e=>by cases e)).mono ?_;rintro e f ⟨v,rfl,d,c⟩;replace a:=a.ct c;clear c
 go_wp2_with (first
  | (refine cK _ rfl _ _ _ (.inr rfl) _ 1 _ rfl a (by decide) [100,114,111,112] (by decide) v rfl rfl (.moves 1 []) d ?_;intro h b;replace a:=b;clear b))
 refine(lD _ _ (a.ct (cq.alloc _ _ _)).size 2 _ 2 _ [1,0] rfl (pz _ _ _ 2 _ rfl (by first | rfl | simp) (by decide)) (fun g e=>by cases e;first | exact a.size | exact Nat.le_succ _)).mono ?_;rintro e f ⟨v,rfl,d,c⟩;replace a:=(a.ct (cq.alloc _ _ _)).ct c;clear c
 go_wp2_with (first
  | (refine cK _ rfl _ _ _ (.inr rfl) _ 2 _ rfl a (by decide) [115,119,97,112] (by decide) v rfl rfl (.moves 2 [1,0]) d ?_;intro h b;replace a:=b;clear b))
 refine(lD _ _ (a.ct (cq.alloc _ _ _)).size 2 _ 3 _ [0,1,0] rfl (pz _ _ _ 3 _ rfl (by first | rfl | simp) (by decide)) (fun g e=>by cases e;first | exact a.size | exact Nat.le_succ _)).mono ?_;rintro e f ⟨v,rfl,d,c⟩;replace a:=(a.ct (cq.alloc _ _ _)).ct c;clear c
 go_wp2_with (first
  | (refine cK _ rfl _ _ _ (.inr rfl) _ 3 _ rfl a (by decide) [111,118,101,114] (by decide) v rfl rfl (.moves 2 [0,1,0]) d ?_;intro h b;replace a:=b;clear b))
 refine(lD _ _ (a.ct (cq.alloc _ _ _)).size 3 _ 3 _ [1,2,0] rfl (pz _ _ _ 3 _ rfl (by first | rfl | simp) (by decide)) (fun g e=>by cases e;first | exact a.size | exact Nat.le_succ _)).mono ?_;rintro e f ⟨v,rfl,d,c⟩;replace a:=(a.ct (cq.alloc _ _ _)).ct c;clear c
 go_wp2_with (first
  | (refine cK _ rfl _ _ _ (.inr rfl) _ 4 _ rfl a (by decide) [114,111,116] (by decide) v rfl rfl (.moves 3 [1,2,0]) d ?_;intro h b;replace a:=b;clear b))
 refine(lD _ _ (a.ct (cq.alloc _ _ _)).size 2 _ 1 _ [1] rfl (pz _ _ _ 1 _ rfl (by first | rfl | simp) (by decide)) (fun g e=>by cases e;first | exact a.size | exact Nat.le_succ _)).mono ?_;rintro e f ⟨v,rfl,d,c⟩;replace a:=(a.ct (cq.alloc _ _ _)).ct c;clear c
 go_wp2_with (first
  | (refine cK _ rfl _ _ _ (.inr rfl) _ 5 _ rfl a (by decide) [110,105,112] (by decide) v rfl rfl (.moves 2 [1]) d ?_;intro h b;replace a:=b;clear b))
 refine(lD _ _ (a.ct (cq.alloc _ _ _)).size 2 _ 3 _ [1,0,1] rfl (pz _ _ _ 3 _ rfl (by first | rfl | simp) (by decide)) (fun g e=>by cases e;first | exact a.size | exact Nat.le_succ _)).mono ?_;rintro e f ⟨v,rfl,d,c⟩;replace a:=(a.ct (cq.alloc _ _ _)).ct c;clear c
 go_wp2_with (first
  | (refine cK _ rfl _ _ _ (.inr rfl) _ 6 _ rfl a (by decide) [116,117,99,107] (by decide) v rfl rfl (.moves 2 [1,0,1]) d ?_;intro h b;replace a:=b;clear b))
 refine(ee _ _ a.size 1 313).mono ?_;rintro e f ⟨v,rfl,d,c⟩;replace a:=a.ct c;clear c
 go_wp2_with (first
  | (refine cK _ rfl _ _ _ (.inr rfl) _ 7 _ rfl a (by decide) [63,100,117,112] (by decide) v rfl rfl (.with_ 1 313) d ?_;intro h b;replace a:=b;clear b))
 refine(ee _ _ a.size 1 314).mono ?_;rintro e f ⟨v,rfl,d,c⟩;replace a:=a.ct c;clear c
 go_wp2_with (first
  | (refine cK _ rfl _ _ _ (.inr rfl) _ 8 _ rfl a (by decide) [112,105,99,107] (by decide) v rfl rfl (.with_ 1 314) d ?_;intro h b;replace a:=b;clear b))
 refine(kM _ _ a.size 315).mono ?_;rintro e f ⟨v,rfl,d,c⟩;replace a:=a.ct c;clear c
 go_wp2_with (first
  | (refine cK _ rfl _ _ _ (.inr rfl) _ 9 _ rfl a (by decide) [100,101,112,116,104] (by decide) v rfl rfl (.push 315) d ?_;intro h b;replace a:=b;clear b))
 refine(ee _ _ a.size 1 316).mono ?_;rintro e f ⟨v,rfl,d,c⟩;replace a:=a.ct c;clear c
 go_wp2_with (first
  | (refine cK _ rfl _ _ _ (.inr rfl) _ 10 _ rfl a (by decide) [62,114] (by decide) v rfl rfl (.with_ 1 316) d ?_;intro h b;replace a:=b;clear b))
 refine(kM _ _ a.size 317).mono ?_;rintro e f ⟨v,rfl,d,c⟩;replace a:=a.ct c;clear c
 go_wp2_with (first
  | (refine cK _ rfl _ _ _ (.inr rfl) _ 11 _ rfl a (by decide) [114,62] (by decide) v rfl rfl (.push 317) d ?_;intro h b;replace a:=b;clear b))
 refine(kM _ _ a.size 318).mono ?_;rintro e f ⟨v,rfl,d,c⟩;replace a:=a.ct c;clear c
 go_wp2_with (first
  | (refine cK _ rfl _ _ _ (.inr rfl) _ 12 _ rfl a (by decide) [114,64] (by decide) v rfl rfl (.push 318) d ?_;intro h b;replace a:=b;clear b))
 go_ret;exact⟨_,rfl,a⟩
inductive Wk where
 | plain (f:Nat)
 | only (f:Nat)
 deriving DecidableEq
def uR(X:Nat->Prop)(w:World):Wk->Value->Prop
 | .plain f,v=>v=bY f
 | .only f,v=>∃ a,v=.func (.func 372) #[] #[a]/\CS X w a (bY f)
theorem uR.ct{X:Nat->Prop}{w w':World}{b:Wk}{v:Value}(h:uR X w b v)(k:je X w w'):uR X w' b v:=by
 cases b with
 | plain f=>exact h
 | only f =>
  obtain⟨a,rfl,c⟩:=h;exact⟨a,rfl,c.ct k⟩
def ql(X:Nat->Prop)(w:World)(K:List UInt8->Option Wk)(f:List UInt8->Option Value):Prop:=∀ s,match K s with
 | none=>f s=none
 | some kd=>∃ v,f s=some v/\uR X w kd v
theorem ql.ct{X:Nat->Prop}{w w':World}{K:List UInt8->Option Wk}{f:List UInt8->Option Value}(h:ql X w K f)(k:je X w w'):ql X w' K f:=by
 intro s;have a:=h s;cases b:K s with
 | none=>simp only[b]at a |-;exact a
 | some e =>
  simp only[b]at a |-;obtain⟨v,c,d⟩:=a;exact⟨v,c,d.ct k⟩
def jj(K:List UInt8->Option Wk)(x:List UInt8)(kd:Wk):List UInt8->Option Wk:=fun y=>if y=x then some kd else K y
theorem ql.put{X:Nat->Prop}{w:World}{K:List UInt8->Option Wk}{f:List UInt8->Option Value}(h:ql X w K f)(x:List UInt8){a:Wk}{v:Value}(g:uR X w a v):ql X w (jj K x a) (ny f x v):=by
 intro s;unfold jj ny;by_cases e:s=x
 . rw[if_pos e,if_pos e];exact⟨v,rfl,g⟩
 . rw[if_neg e,if_neg e];exact h s
def oP(w0 w:World)(b n:Nat)(K:List UInt8->Option Wk):Prop :=
 ∃ f,cX sk w b n f/\ql (fun g=>w0.heap.size<=g) w K f/\w0.heap.size<=b/\K_ w0 w
theorem oP.kf(w:World):oP w (w.alloc (.map #[] 0)) w.heap.size 0 (fun _=>none):=⟨_,cX.kf sk w,fun _=>rfl,Nat.le_refl _,cq.alloc _ _ _⟩
theorem oP.ct{a w w':World}{b n:Nat}{K:List UInt8->Option Wk}(h:oP a w b n K)(k:K_ w w'):oP a w' b n K:=by
 obtain⟨f,c,d,e,g⟩:=h;exact⟨f,c.ct k id,d.ct (je.kt k),e,g.trans k⟩
theorem oP.size{a w:World}{b n:Nat}{K:List UInt8->Option Wk}(h:oP a w b n K):a.heap.size<=w.heap.size:=by
 obtain⟨f,d,e,g,c⟩:=h;exact c.size
theorem du{d:World}(w:World){p:Array Oper}{q:List Oper}{o:Oper}{a:Act}{Q:Exit->Act->World->Prop}(B:o.guard=none)(m x v:Operand)(D:o.op=Op.mapUpdate 57 m x v\/o.op=Op.insert 57 m x v)(b n:Nat)(K:List UInt8->Option Wk)
 (C:a.eval m=.map (some b)) (E:oP d w b n K) (I:n<1000) (s:List UInt8) (F:s.length<=1000) (h:Value) (c:a.eval x=S_ s) (G:a.eval v=h) (l:Wk) (r:uR (fun g=>d.heap.size<=g) w l h)
 (A:∀ w',oP d w' b (n+1) (jj K s l)->wpList prog p Q q (a.put o.dst undef) w'):wpList prog p Q (o :: q) a w:=by
 obtain⟨f,j,t,u,y⟩:=E;refine jM sk w B m x v 57 D _ underlying57 b n f C j (by unfold maxLen;omega) s (Nat.le_trans F (by unfold maxLen;omega)) h c G ?_;intro w' z k
 have c:=je.of (X:=fun g=>d.heap.size<=g) k (fun g _ e=>by
  have e:g=b:=e
  rw[e];exact cX.jt j)
 exact A w' ⟨_,z,(t.ct c).put s (r.ct c),u,y.dh k (fun i H e=>by
  have e:i=b:=e
  omega)⟩
theorem fy(w:World)(B:Nat)(hB:B<=w.heap.size)(fn:Nat):Calls prog 220 #[.func (.func fn) #[] #[]] w fun e w'=>∃ v,e=.returned v/\uR (fun g=>B<=g) w' (.only fn) v/\K_ w w':=by
 have zK:=zK;go_enter func220,ntmps220;go_wp2;go_ret;exact⟨_,rfl,⟨_,rfl,⟨w.heap.size,_,rfl,hB,cx w _⟩⟩,cq.alloc _ _ _⟩
def il:List UInt8->Option Wk:=jj (jj (jj (jj (jj (jj (jj (jj (jj (jj (jj (jj (jj (jj (jj (jj (jj (jj (jj (jj (jj (jj (jj (jj (jj (fun _=>none) [58] (.plain 217)) [59] (.plain 218)) [105,109,109,101,100,105,97,116,101] (.plain 219)) [114,101,99,117,114,115,101] (.only 221)) [101,120,105,116] (.only 222)) [118,97,114,105,97,98,108,101] (.plain 223)) [99,114,101,97,116,101] (.plain 225)) [99,111,110,115,116,97,110,116] (.plain 226)) [105,102] (.only 227)) [101,108,115,101] (.only 229)) [116,104,101,110] (.only 230)) [98,101,103,105,110] (.only 232)) [97,103,97,105,110] (.only 234)) [117,110,116,105,108] (.only 236)) [119,104,105,108,101] (.only 237)) [114,101,112,101,97,116] (.only 238)) [100,111] (.only 239)) [108,111,111,112] (.only 240)) [43,108,111,111,112] (.only 241)) [40] (.plain 242)) [92] (.plain 244)) [115,34] (.plain 245)) [46,34] (.plain 246)) [99,104,97,114] (.plain 247)) [39] (.plain 248)
def GZ(w:World)(e:Ending)(w':World):Prop:=∃ b,e=.returned (.map (some b))/\oP w w' b 25 il
theorem sY(w:World):Calls prog 142 #[] w (GZ w):=by
 have h:=@run_makeMap prog;have a:=oP.kf w;go_enter func142,ntmps142
 go_wp2_with (first
  | (refine du _ rfl _ _ _ (.inr rfl) _ 0 _ rfl a (by decide) [58] (by decide) (bY 217) rfl rfl (.plain 217) rfl ?_;intro f b;replace a:=b;clear b)
  | (refine du _ rfl _ _ _ (.inr rfl) _ 1 _ rfl a (by decide) [59] (by decide) (bY 218) rfl rfl (.plain 218) rfl ?_;intro f b;replace a:=b;clear b)
  | (refine du _ rfl _ _ _ (.inr rfl) _ 2 _ rfl a (by decide) [105,109,109,101,100,105,97,116,101] (by decide) (bY 219) rfl rfl (.plain 219) rfl ?_;intro f b;replace a:=b;clear b))
 refine(fy _ _ a.size 221).mono ?_;rintro e g ⟨v,rfl,d,c⟩;replace a:=a.ct c;clear c
 go_wp2_with (first
  | (refine du _ rfl _ _ _ (.inr rfl) _ 3 _ rfl a (by decide) [114,101,99,117,114,115,101] (by decide) v rfl rfl (.only 221) d ?_;intro f b;replace a:=b;clear b))
 refine(fy _ _ a.size 222).mono ?_;rintro e g ⟨v,rfl,d,c⟩;replace a:=a.ct c;clear c
 go_wp2_with (first
  | (refine du _ rfl _ _ _ (.inr rfl) _ 4 _ rfl a (by decide) [101,120,105,116] (by decide) v rfl rfl (.only 222) d ?_;intro f b;replace a:=b;clear b)
  | (refine du _ rfl _ _ _ (.inr rfl) _ 5 _ rfl a (by decide) [118,97,114,105,97,98,108,101] (by decide) (bY 223) rfl rfl (.plain 223) rfl ?_;intro f b;replace a:=b;clear b)
  | (refine du _ rfl _ _ _ (.inr rfl) _ 6 _ rfl a (by decide) [99,114,101,97,116,101] (by decide) (bY 225) rfl rfl (.plain 225) rfl ?_;intro f b;replace a:=b;clear b)
  | (refine du _ rfl _ _ _ (.inr rfl) _ 7 _ rfl a (by decide) [99,111,110,115,116,97,110,116] (by decide) (bY 226) rfl rfl (.plain 226) rfl ?_;intro f b;replace a:=b;clear b))
 refine(fy _ _ a.size 227).mono ?_;rintro e g ⟨v,rfl,d,c⟩;replace a:=a.ct c;clear c
 go_wp2_with (first
  | (refine du _ rfl _ _ _ (.inr rfl) _ 8 _ rfl a (by decide) [105,102] (by decide) v rfl rfl (.only 227) d ?_;intro f b;replace a:=b;clear b))
 refine(fy _ _ a.size 229).mono ?_;rintro e g ⟨v,rfl,d,c⟩;replace a:=a.ct c;clear c
 go_wp2_with (first
  | (refine du _ rfl _ _ _ (.inr rfl) _ 9 _ rfl a (by decide) [101,108,115,101] (by decide) v rfl rfl (.only 229) d ?_;intro f b;replace a:=b;clear b))
 refine(fy _ _ a.size 230).mono ?_;rintro e g ⟨v,rfl,d,c⟩;replace a:=a.ct c;clear c
 go_wp2_with (first
  | (refine du _ rfl _ _ _ (.inr rfl) _ 10 _ rfl a (by decide) [116,104,101,110] (by decide) v rfl rfl (.only 230) d ?_;intro f b;replace a:=b;clear b))
 refine(fy _ _ a.size 232).mono ?_;rintro e g ⟨v,rfl,d,c⟩;replace a:=a.ct c;clear c
 go_wp2_with (first
  | (refine du _ rfl _ _ _ (.inr rfl) _ 11 _ rfl a (by decide) [98,101,103,105,110] (by decide) v rfl rfl (.only 232) d ?_;intro f b;replace a:=b;clear b))
 refine(fy _ _ a.size 234).mono ?_;rintro e g ⟨v,rfl,d,c⟩;replace a:=a.ct c;clear c
 go_wp2_with (first
  | (refine du _ rfl _ _ _ (.inr rfl) _ 12 _ rfl a (by decide) [97,103,97,105,110] (by decide) v rfl rfl (.only 234) d ?_;intro f b;replace a:=b;clear b))
 refine(fy _ _ a.size 236).mono ?_;rintro e g ⟨v,rfl,d,c⟩;replace a:=a.ct c;clear c
 go_wp2_with (first
  | (refine du _ rfl _ _ _ (.inr rfl) _ 13 _ rfl a (by decide) [117,110,116,105,108] (by decide) v rfl rfl (.only 236) d ?_;intro f b;replace a:=b;clear b))
 refine(fy _ _ a.size 237).mono ?_;rintro e g ⟨v,rfl,d,c⟩;replace a:=a.ct c;clear c
 go_wp2_with (first
  | (refine du _ rfl _ _ _ (.inr rfl) _ 14 _ rfl a (by decide) [119,104,105,108,101] (by decide) v rfl rfl (.only 237) d ?_;intro f b;replace a:=b;clear b))
 refine(fy _ _ a.size 238).mono ?_;rintro e g ⟨v,rfl,d,c⟩;replace a:=a.ct c;clear c
 go_wp2_with (first
  | (refine du _ rfl _ _ _ (.inr rfl) _ 15 _ rfl a (by decide) [114,101,112,101,97,116] (by decide) v rfl rfl (.only 238) d ?_;intro f b;replace a:=b;clear b))
 refine(fy _ _ a.size 239).mono ?_;rintro e g ⟨v,rfl,d,c⟩;replace a:=a.ct c;clear c
 go_wp2_with (first
  | (refine du _ rfl _ _ _ (.inr rfl) _ 16 _ rfl a (by decide) [100,111] (by decide) v rfl rfl (.only 239) d ?_;intro f b;replace a:=b;clear b))
 refine(fy _ _ a.size 240).mono ?_;rintro e g ⟨v,rfl,d,c⟩;replace a:=a.ct c;clear c
 go_wp2_with (first
  | (refine du _ rfl _ _ _ (.inr rfl) _ 17 _ rfl a (by decide) [108,111,111,112] (by decide) v rfl rfl (.only 240) d ?_;intro f b;replace a:=b;clear b))
 refine(fy _ _ a.size 241).mono ?_;rintro e g ⟨v,rfl,d,c⟩;replace a:=a.ct c;clear c
 go_wp2_with (first
  | (refine du _ rfl _ _ _ (.inr rfl) _ 18 _ rfl a (by decide) [43,108,111,111,112] (by decide) v rfl rfl (.only 241) d ?_;intro f b;replace a:=b;clear b)
  | (refine du _ rfl _ _ _ (.inr rfl) _ 19 _ rfl a (by decide) [40] (by decide) (bY 242) rfl rfl (.plain 242) rfl ?_;intro f b;replace a:=b;clear b)
  | (refine du _ rfl _ _ _ (.inr rfl) _ 20 _ rfl a (by decide) [92] (by decide) (bY 244) rfl rfl (.plain 244) rfl ?_;intro f b;replace a:=b;clear b)
  | (refine du _ rfl _ _ _ (.inr rfl) _ 21 _ rfl a (by decide) [115,34] (by decide) (bY 245) rfl rfl (.plain 245) rfl ?_;intro f b;replace a:=b;clear b)
  | (refine du _ rfl _ _ _ (.inr rfl) _ 22 _ rfl a (by decide) [46,34] (by decide) (bY 246) rfl rfl (.plain 246) rfl ?_;intro f b;replace a:=b;clear b)
  | (refine du _ rfl _ _ _ (.inr rfl) _ 23 _ rfl a (by decide) [99,104,97,114] (by decide) (bY 247) rfl rfl (.plain 247) rfl ?_;intro f b;replace a:=b;clear b)
  | (refine du _ rfl _ _ _ (.inr rfl) _ 24 _ rfl a (by decide) [39] (by decide) (bY 248) rfl rfl (.plain 248) rfl ?_;intro f b;replace a:=b;clear b))
 go_ret;exact⟨_,rfl,a⟩
end Go.Proofs.dS
