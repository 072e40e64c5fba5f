/- A part of WalkG. No condition. -/
import Derived.Test.YthhfkhhhclmimaaGreatDoorM03
set_option linter.unusedVariables false
set_option linter.unusedSimpArgs false
namespace Go.Proofs.K
open Go Go.RowKit Go.Maps
def RV(v:Value):Option (DataW Value × List MemPlace):=some (.held v,[])
structure oN(P:Program)(k:TypeId)(α:Type) where
 val:α->Value
 lit:α->Lit
 ok:α->Prop
 kd:Keyed P k
 reads:∀ x,ok x->keyOf P k (val x)=some (lit x)
 inv:∀ v kl,keyOf P k v=some kl->∃ x,ok x/\v=val x/\kl=lit x
 inj:∀ x y,lit x=lit y->x=y
 NW:∀ x,WideAt.IsKeyLit (lit x)
def Ko{P:Program}{k:TypeId}(hk:P.underlying k=some .string):oN P k (List UInt8) where
 val s:=S_ s
 lit s:=.string s
 ok s:=s.length<=maxLen
 kd:=string_keyed hk
 reads s hs:=WideMaps.keyOf_string_mk hk (s:=⟨s.toArray⟩) hs
 inv v kl h:=by
  cases v <;> simp[keyOf,hk,mapKey]at h
  rename_i s
  obtain⟨h1,rfl⟩:=h;exact⟨s.data.toList,h1,rfl,rfl⟩
 inj x y h:=by injection h
 NW x:=trivial
def Kp{P:Program}{k:TypeId}(hk:P.underlying k=some (.int .i64)):oN P k Int where
 val n:=.int .i64 n
 lit n:=.int .i64 n
 ok n:=(Lit.int .i64 n).wf=true
 kd:=int_keyed hk
 reads n hn:=keyOf_int_mk hk hn
 inv v kl h:=by
  obtain⟨x,rfl,rfl,hw⟩:=Maps.keyOf_int_inv hk h;exact⟨x,hw,rfl,rfl⟩
 inj x y h:=by injection h
 NW x:=trivial
variable {P:Program} {k:TypeId} {α:Type}
def fj(kk:oN P k α)(D:DataW Value)(f:α->Option Value):Prop :=
 (∀ x,kk.ok x->Maps.has D (kk.lit x)=(f x).isSome)/\∀ x v,kk.ok x->f x=some v->∀ z,D.atKey (kk.lit x) z=.held v
def cX(kk:oN P k α)(w:World)(b n:Nat)(f:α->Option Value):Prop:=∃ D,w.ownsMap P k RV b n D/\fj kk D f
theorem cX.lt{a:oN P k α}{w:World}{b n:Nat}{f:α->Option Value}(h:cX a w b n f):b<w.heap.size:=by
 obtain⟨D,h,_⟩:=h;exact h.lt
theorem GV{S:Nat->Prop}{w w':World}{b n:Nat}{D:DataW Value}{R:Value->Option (DataW Value × List MemPlace)}(h:w.ownsMap P k R b n D)(i:cq S w w')(g:¬ S b):w'.ownsMap P k R b n D:=by
 obtain⟨c,a,e,F,f,d⟩:=h;exact⟨c,a,i.heap e g,F,f,d⟩
theorem cX.ct{S:Nat->Prop}{a:oN P k α}{w w':World}{b n:Nat}{f:α->Option Value}(h:cX a w b n f)(e:cq S w w')(d:¬ S b):cX a w' b n f:=by
 obtain⟨D,h,c⟩:=h;exact⟨D,GV h e d,c⟩
theorem cX.mono{a:oN P k α}{w:World}{b n c:Nat}{f:α->Option Value}(h:cX a w b n f)(d:n<=c):cX a w b c f:=by
 obtain⟨D,h,e⟩:=h;exact⟨D,h.mono d,e⟩
theorem cX.kf(a:oN P k α)(w:World):cX a (w.alloc (.map #[] 0)) w.heap.size 0 (fun _=>none) :=
 ⟨_,World.ownsMap_made w P k RV,fun _ _=>rfl,fun _ _ _ h=>by cases h⟩
def ny[DecidableEq α](f:α->Option Value)(x:α)(v:Value):α->Option Value:=fun y=>if y=x then some v else f y
theorem fj.put[DecidableEq α]{kk:oN P k α}{D:DataW Value}{f:α->Option Value}(h:fj kk D f)(hD:Maps.IsMap D)(x:α)(v:Value):fj kk (D.put (kk.lit x) (.held v)) (ny f x v):=by
 constructor
 . intro y hy
   unfold ny;by_cases e:y=x
   . subst e
     rw[if_pos rfl];exact has_put_same hD (kk.NW y) _
   . rw[if_neg e,has_put_other (fun e'=>e (kk.inj _ _ e'))]
     exact h.1 y hy
 . intro y u hy hu z
   unfold ny at hu;by_cases e:y=x
   . subst e
     rw[if_pos rfl]at hu;cases hu;exact atKey_put_same hD (kk.NW y) _ _
   . rw[if_neg e]at hu
     rw[atKey_put_other (fun e'=>e (kk.inj _ _ e'))];exact h.2 y u hy hu z
theorem jM[DecidableEq α](kk:oN P k α)(w:World){ops:Array Oper}{rest:List Oper}{o:Oper}{a:Act}{Q:Exit->Act->World->Prop}
 (hg:o.guard=none) (m x v:Operand) (t:TypeId) (hop:o.op=Op.mapUpdate t m x v\/o.op=Op.insert t m x v) (e:TypeId) (ht:P.underlying t=some (.map k e)) (b n:Nat) (f:α->Option Value)
 (hm:a.eval m=.map (some b)) (hown:cX kk w b n f) (hn:n<maxLen) (key:α) (hok:kk.ok key) (val:Value) (hx:a.eval x=kk.val key) (hv:a.eval v=val)
 (hK:∀ w',cX kk w' b (n+1) (ny f key val)->cq (fun g=>g=b) w w'->wpList P ops Q rest (a.put o.dst undef) w') :
 wpList P ops Q (o :: rest) a w:=by
 refine wpList_plain hg fun K' hK'=>?_;obtain⟨D,hown,hr⟩:=hown;have hD:=(hown.tidy kk.kd).isMap;obtain⟨w',hrun,r1,r2⟩:=hown.update kk.kd ht hn (kk.reads key hok) (show RV val=some (.held val,[]) from rfl);have hk:=cq.grown (S:=fun g=>g=b) r2 (fun j _ e=>(Option.some.inj e).symm);unfold Oper.wp;rcases hop with hop | hop <;> simp[execOp,hop,hm,hx,hv,hrun,Result.andThen] <;> exact hK' _ _ (hK w' ⟨_,r1,hr.put hD key val⟩ hk)
theorem jd(d:oN P k α)(w:World){s:Array Oper}{y:List Oper}{o:Oper}{a:Act}{Q:Exit->Act->World->Prop}
 (A:o.guard=none) (m x:Operand) (t:TypeId) (C:o.op=Op.lookup t m x true) (e:TypeId) (E:P.underlying t=some (.map k e)) (z:Value) (H:(zeroValue e).run P w=.ok z w) (b n:Nat) (f:α->Option Value)
 (B:a.eval m=.map (some b)) (i:cX d w b n f) (c:α) (g:d.ok c) (G:a.eval x=d.val c) (r:Option Value) (j:f c=r)
 (p:wpList P s Q y (a.put o.dst (.tuple #[r.getD z,.bool r.isSome])) w) :
 wpList P s Q (o :: y) a w:=by
 obtain⟨D,i,l⟩:=i;refine wpList_lookup_own_ok w A m x t C k e d.kd E RV H (.held z) [] rfl b n D B i _ _ G (d.reads c g) ?_;intro v I F;have h:D.atKey (d.lit c) (.held z)=.held v:=by
  have:=Option.some.inj F;exact(congrArg Prod.fst this).symm
 rw[l.1 c g,j];cases r with
 | none =>
  have q:=l.1 c g;rw[j]at q;rw[atKey_of_not_has q]at h;cases h;exact p
 | some u =>
  rw[l.2 c u g j]at h;cases h;exact p
theorem yN(d:oN P k α)(w:World){j:Array Oper}{l:List Oper}{o:Oper}{a:Act}{Q:Exit->Act->World->Prop}
 (C:o.guard=none) (m x:Operand) (t:TypeId) (F:o.op=Op.lookup t m x false) (e:TypeId) (H:P.underlying t=some (.map k e)) (z:Value) (K:(zeroValue e).run P w=.ok z w) (b n:Nat) (f:α->Option Value)
 (E:a.eval m=.map (some b)) (i:cX d w b n f) (c:α) (h:d.ok c) (J:a.eval x=d.val c) (r:Option Value) (s:f c=r)
 (p:wpList P j Q l (a.put o.dst (r.getD z)) w) :
 wpList P j Q (o :: l) a w:=by
 obtain⟨D,i,y⟩:=i;obtain⟨v,M,G,I⟩:=i.lookup d.kd H K (show RV z=some (.held z,[]) from rfl) (d.reads c h);have g:D.atKey (d.lit c) (.held z)=.held v:=by
  have:=Option.some.inj I;exact(congrArg Prod.fst this).symm
 have B:wpList P j Q l (a.put o.dst v) w:=by
  cases r with
  | none =>
   have q:=y.1 c h;rw[s]at q;rw[atKey_of_not_has q]at g;cases g;exact p
  | some u =>
   rw[y.2 c u h s]at g;cases g;exact p
 refine wpList_plain C fun L A=>?_;unfold Oper.wp;simp[execOp,F,E,J,G,Result.andThen];exact A _ _ B
def iJ(kk:oN P k α)(w:World)(b r n:Nat)(f:α->Option Value)(left:α->Bool)(cnt:Nat):Prop :=
 ∃ D L,w.ranges P k RV b r n D L cnt/\fj kk D f/\∀ x,kk.ok x->L (kk.lit x)=left x
theorem iJ.ct{S:Nat->Prop}{c:oN P k α}{w w':World}{b r n:Nat}{f:α->Option Value}{e:α->Bool}{a:Nat}(h:iJ c w b r n f e a)(d:cq S w w')(p:¬ S b)(q:¬ S r):iJ c w' b r n f e a:=by
 obtain⟨D,L,⟨j,i,v,u,g,l,F,s,o,m,t⟩,h⟩:=h;exact⟨D,L,⟨j,i,v,u,g,d.heap l p,F,s,o,d.heap m q,t⟩,h⟩
theorem iJ.left_eq{c:oN P k α}{w:World}{b r n:Nat}{f:α->Option Value}{d:α->Bool}{a:Nat}(h:iJ c w b r n f d a):w.rangeLeft b r=a:=by
 obtain⟨D,L,h,_⟩:=h;exact h.left_eq
theorem iJ.sV{c:oN P k α}{w:World}{b r n:Nat}{f:α->Option Value}{d:α->Bool}{a:Nat}(h:iJ c w b r n f d a):r<w.heap.size/\r≠b/\b<w.heap.size:=by
 obtain⟨D,L,h,_⟩:=h;exact⟨h.lt,h.ne,h.owns.lt⟩
theorem kK(d:oN P k α)(w:World){h:Array Oper}{i:List Oper}{o:Oper}{a:Act}{Q:Exit->Act->World->Prop}
 (r:o.guard=none) (m:Operand) (t:TypeId) (u:o.op=Op.range t m) (e:TypeId) (v:P.underlying t=some (.map k e)) (b n:Nat) (f:α->Option Value)
 (s:a.eval m=.map (some b)) (c:cX d w b n f)
 (q:∀ w' j,iJ d w' b w.heap.size n f (fun x=>(f x).isSome) j->K_ w w'->wpList P h Q i (a.put o.dst (cD w.heap.size)) w') :
 wpList P h Q (o :: i) a w:=by
 obtain⟨D,c,g⟩:=c;refine wpList_range_own w r m t u k e d.kd v RV b n D s c ?_;intro w' l p _;exact q w' _ ⟨D,_,l,g,g.1⟩ (cq.grown p (fun _ _ e=>by cases e))
theorem kL[DecidableEq α](kk:oN P k α)(w:World){ops:Array Oper}{rest:List Oper}{o:Oper}{a:Act}{Q:Exit->Act->World->Prop}
 (hg:o.guard=none) (it:Operand) (hop:o.op=Op.next it false) (b r n:Nat) (f:α->Option Value) (left:α->Bool) (cnt:Nat)
 (hit:a.eval it=cD r) (h:iJ kk w b r n f left cnt)
 (hDone:(∀ x,kk.ok x->left x=false)->wpList P ops Q rest (a.put o.dst (.tuple #[.bool false])) w)
 (hMore:∀ (x:α) (v:Value) (w':World) (cnt':Nat),kk.ok x->left x=true->f x=some v->iJ kk w' b r n f (fun y=>left y && !decide (y=x)) cnt'->cnt'<cnt->cq (fun g=>g=r) w w' ->
   (Instr.entry (cD r)).run P w'=.ok (.tuple #[kk.val x,v]) w'->wpList P ops Q rest (a.put o.dst (.tuple #[.bool true,kk.val x,v])) w') :
 wpList P ops Q (o :: rest) a w:=by
 obtain⟨D,L,h,hr,hL⟩:=h;refine wpList_next_ranges w hg it hop k kk.kd RV (fun x:α=>kk.val x) (fun v:Value=>v) (fun key kl hk=>by obtain⟨x,_,rfl,_⟩:=kk.inv key kl hk;exact⟨x,rfl⟩) (fun v y _=>⟨v,rfl⟩) b r n D L cnt hit h ?_ ?_
 . intro _ h0
   exact hDone fun x hx=>by rw[<- hL x hx];exact h0 _
 . intro x v kl y w' cnt' hkey hl hv hat hrg hlt hgr _ hen
   obtain⟨x',hok,e1,e2⟩:=kk.inv _ _ hkey;have hy:y.1=.held v:=by rw[<- Option.some.inj hv]
   have hh:Maps.has D kl=true:=has_true_of_atKey (y:=y.1) hat;have hkx:kk.val x=kk.val x':=e1;subst e2;rw[hkx]at hen |-;have hs:=hr.1 x' hok;rw[hh]at hs;obtain⟨v',hf⟩:=Option.isSome_iff_exists.1 hs.symm;have:=hr.2 x' v' hok hf (.held v);rw[hat,hy]at this;cases this;refine hMore x' v w' cnt' hok (by rw[<- hL x' hok];exact hl) hf ⟨D,_,hrg,hr,?_⟩ hlt (cq.grown hgr (fun j _ e=>(Option.some.inj e).symm)) hen;intro z hz;show(L (kk.lit z) && !(kk.lit z).sameKey (kk.lit x'))=_;rw[hL z hz];congr 1;by_cases e:z=x'
   . subst e
     simp;have:=kk.NW z;revert this;cases kk.lit z <;> simp[WideAt.IsKeyLit,Lit.sameKey]
   . rw[sameKey_ne (fun e'=>e (kk.inj _ _ e'))]
     simp[e]
theorem iJ.yO{e:oN P k α}{w:World}{b r n:Nat}{f:α->Option Value}{g:α->Bool}{a:Nat}(h:iJ e w b r n f g a):a<=n:=by
 obtain⟨D,L,⟨l,j,t,s,i,m,F,d,p,o,_,c,q⟩,h⟩:=h;rw[<- c];unfold leftOf;exact Nat.le_trans (Array.size_filter_le) d
theorem cX.congr{c:oN P k α}{w:World}{b n:Nat}{f g:α->Option Value}(h:cX c w b n f)(e:∀ x,c.ok x->f x=g x):cX c w b n g:=by
 obtain⟨D,h,d,i⟩:=h;refine⟨D,h,fun x a=>by rw[<- e x a];exact d x a,fun x v a j z=>i x v a (by rw[e x a];exact j) z⟩
def sW(f2 f1:α->Option Value)(left:α->Bool):α->Option Value:=fun s=>if(f2 s).isSome && !left s then f2 s else f1 s
theorem sX(a b:α->Option Value):sW a b (fun s=>(a s).isSome)=b:=by
 funext s;show(if(a s).isSome && !(a s).isSome then a s else b s)=b s;cases (a s).isSome <;> rfl
theorem uQ[DecidableEq α](f2 f1:α->Option Value)(left:α->Bool)(x:α)(v:Value)(hv:f2 x=some v):ny (sW f2 f1 left) x v=sW f2 f1 (fun y=>left y && !decide (y=x)):=by
 funext s;unfold ny sW;by_cases e:s=x
 . subst e
   simp[hv]
 . simp[e]
def dL(f2 f1:α->Option Value):α->Option Value:=fun s=>match f2 s with | some v=>some v | none=>f1 s
theorem xo(a b:α->Option Value)(c:α->Bool)(s:α)(h:c s=false):sW a b c s=dL a b s:=by
 unfold sW dL;rw[h];cases a s <;> rfl
set_option maxRecDepth 10000
theorem Ao:∀ (M:Nat) (l:List Nat),l.Nodup->(∀ x ∈ l,x<M)->l.length<=M
 | 0,l,_,h=>by
  cases l with
  | nil=>exact Nat.le_refl _
  | cons a l=>exact absurd (h a (by simp)) (by omega)
 | M+1,l,hn,h=>by
  have h1:(l.filter (fun x=>decide (x≠M))).length<=M:=by
   refine Ao M _ (hn.filter _) fun x hx=>?_
   have:=List.mem_filter.1 hx;have h2:=h x this.1;have h3:x≠M:=by simpa using this.2
   omega
  have h2:∀ l:List Nat,l.Nodup->l.length<=(l.filter (fun x=>decide (x≠M))).length+1:=by
   intro l
   induction l with
   | nil=>intro _;simp
   | cons a l ih =>
    intro hn;have hn':=List.nodup_cons.1 hn;by_cases ha:a=M
    . have e:l.filter (fun x=>decide (x≠M))=l:=by
       rw[List.filter_eq_self];intro x hx;simp
       rintro rfl;exact hn'.1 (ha ▸ hx)
      rw[List.filter_cons_of_neg (by simp[ha]),e]
      simp
    . rw[List.filter_cons_of_pos (by simp[ha])]
      have:=ih hn'.2;simp only[List.length_cons]
      omega
  exact Nat.le_trans (h2 l hn) (by omega)
variable {P:Program} {k:TypeId} {α:Type}
open Go.WideElems Go.ChangeMaps Go.MapKept Go.WideShapes Go.ChangeShapes in
theorem cX.Tg{kk:oN P k α}{w:World}{b n:Nat}{f:α->Option Value}(h:cX kk w b n f)(M:Nat)(enc:α->Nat)(hM:∀ x,kk.ok x->f x≠none->enc x<M)(hi:∀ x y,f x≠none->f y≠none->enc x=enc y->x=y):cX kk w b M f:=by
 obtain⟨D,⟨es,clock,hb,F,hs,hD⟩,hr⟩:=h;refine⟨D,⟨es,clock,hb,F,?_,hD⟩,hr⟩;have hown:w.ownsMap P k RV b n D:=⟨es,clock,hb,F,hs,hD⟩
 -- each entry's key
 have hk:∀ x ∈ es.toList,∃ a,kk.ok a/\x.key=kk.val a/\f a≠none:=by
  intro x hx;obtain⟨y,hy⟩:=F.reads x hx;obtain⟨a,h1,h2,h3⟩:=kk.inv _ _ (rd_key hy);refine⟨a,h1,h2,?_⟩;intro e;have hh:=hr.1 a h1;rw[e]at hh
  have hm:Maps.has D (kk.lit a)=true:=by
   subst hD
   show List.any _ _=true
   rw[List.any_eq_true];refine⟨rg P k RV x,(sorted_perm _).mem_iff.2 (List.mem_map_of_mem hx),?_⟩;rw[rg_of hy,h3];exact WideAt.sameKey_self (kk.NW a)
  rw[hm]at hh
  cases hh
 have hc:∀ x:MapEntry,∃ m:Nat,x ∈ es.toList->∃ a,kk.ok a/\x.key=kk.val a/\f a≠none/\m=enc a:=by
  intro x;by_cases hx:x ∈ es.toList
  . obtain⟨a,h1,h2,h3⟩:=hk x hx
    exact⟨enc a,fun _=>⟨a,h1,h2,h3,rfl⟩⟩
  . exact⟨0,fun h=>absurd h hx⟩
 obtain⟨g,hg⟩:=Classical.axiomOfChoice hc
 have hl:(es.toList.map g).length<=M:=by
  refine Ao M _ ?_ ?_
  . have hn:=F.stamped.2.2
    unfold List.Nodup at hn |-;rw[List.pairwise_map]at hn |-;refine hn.imp_of_mem fun {x y} hx hy hne e=>hne ?_
    obtain⟨a,_,ha,ha2,WJ⟩:=hg x hx;obtain⟨c,_,hc1,hc2,hc3⟩:=hg y hy;rw[ha,hc1,hi a c ha2 hc2 (by rw[<- WJ,<- hc3];exact e)]
  . intro m hm
    obtain⟨x,hx,rfl⟩:=List.mem_map.1 hm;obtain⟨a,h1,_,h3,h4⟩:=hg x hx;rw[h4];exact hM a h1 h3
 rw[List.length_map]at hl;simpa using hl
end Go.Proofs.K
