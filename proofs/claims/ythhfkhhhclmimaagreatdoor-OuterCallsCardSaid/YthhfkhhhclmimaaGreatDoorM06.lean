/- Of CallsG: MapF. No condition. -/
import Derived.Test.YthhfkhhhclmimaaGreatDoorM02
set_option linter.unusedVariables false
set_option linter.unusedSimpArgs false
namespace Go.Proofs.K
open Go Go.RowKit Go.Maps
def RV (v:Value):Option (DataW Value × List MemPlace):=some (.held v,[])
structure Key (P:Program) (k:TypeId) (α:Type) where
 val:α→Value
 lit:α→Lit
 ok:α→Prop
 kd:Keyed P k
 reads:∀ x,ok x→keyOf P k (val x)=some (lit x)
 inv:∀ v kl,keyOf P k v=some kl→∃ x,ok x∧v=val x∧kl=lit x
 inj:∀ x y,lit x=lit y→x=y
 isk:∀ x,WideAt.IsKeyLit (lit x)
def strKey {P:Program} {k:TypeId} (hk:P.underlying k=some .string):Key P k (List UInt8) where
 val s:=.string ⟨s.toArray⟩
 lit s:=.string s
 ok s:=s.length≤maxLen
 kd:=string_keyed hk
 reads s hs:=WideMaps.keyOf_string_mk hk (s:=⟨s.toArray⟩) hs
 inv v kl h:=by
  cases v <;> simp [keyOf,hk,mapKey] at h
  rename_i s
  obtain ⟨h1,rfl⟩:=h;exact ⟨s.data.toList,h1,rfl,rfl⟩
 inj x y h:=by injection h
 isk x:=trivial
def intKey {P:Program} {k:TypeId} (hk:P.underlying k=some (.int .i64)):Key P k Int where
 val n:=.int .i64 n
 lit n:=.int .i64 n
 ok n:=(Lit.int .i64 n).wf=true
 kd:=int_keyed hk
 reads n hn:=keyOf_int_mk hk hn
 inv v kl h:=by
  obtain ⟨x,rfl,rfl,hw⟩:=Maps.keyOf_int_inv hk h;exact ⟨x,hw,rfl,rfl⟩
 inj x y h:=by injection h
 isk x:=trivial
variable {P:Program} {k:TypeId} {α:Type}
def Reads (kk:Key P k α) (D:DataW Value) (f:α→Option Value):Prop :=
 (∀ x,kk.ok x→Maps.has D (kk.lit x)=(f x).isSome)∧∀ x v,kk.ok x→f x=some v→∀ z,D.atKey (kk.lit x) z=.held v
def MapIs (kk:Key P k α) (w:World) (b n:Nat) (f:α→Option Value):Prop:=∃ D,w.ownsMap P k RV b n D∧Reads kk D f
theorem MapIs.lt {kk:Key P k α} {w:World} {b n:Nat} {f:α→Option Value} (h:MapIs kk w b n f):b<w.heap.size:=by
 obtain ⟨D,h,_⟩:=h;exact h.lt
theorem own_keeps {S:Nat→Prop} {w w':World} {b n:Nat} {D:DataW Value} {R:Value→Option (DataW Value × List MemPlace)} (h:w.ownsMap P k R b n D) (kp:Keeps S w w') (hs:¬ S b):w'.ownsMap P k R b n D:=by
 obtain ⟨es,clock,hb,F,hn,hD⟩:=h;exact ⟨es,clock,kp.heap hb hs,F,hn,hD⟩
theorem MapIs.keeps {S:Nat→Prop} {kk:Key P k α} {w w':World} {b n:Nat} {f:α→Option Value} (h:MapIs kk w b n f) (kp:Keeps S w w') (hs:¬ S b):MapIs kk w' b n f:=by
 obtain ⟨D,h,hr⟩:=h;exact ⟨D,own_keeps h kp hs,hr⟩
theorem MapIs.mono {kk:Key P k α} {w:World} {b n n':Nat} {f:α→Option Value} (h:MapIs kk w b n f) (hn:n≤n'):MapIs kk w b n' f:=by
 obtain ⟨D,h,hr⟩:=h;exact ⟨D,h.mono hn,hr⟩
theorem MapIs.made (kk:Key P k α) (w:World):MapIs kk (w.alloc (.map #[] 0)) w.heap.size 0 (fun _=>none) :=
 ⟨_,World.ownsMap_made w P k RV,fun _ _=>rfl,fun _ _ _ h=>by cases h⟩
def upd [DecidableEq α] (f:α→Option Value) (x:α) (v:Value):α→Option Value:=fun y=>if y=x then some v else f y
theorem Reads.put [DecidableEq α] {kk:Key P k α} {D:DataW Value} {f:α→Option Value} (h:Reads kk D f) (hD:Maps.IsMap D) (x:α) (v:Value):Reads kk (D.put (kk.lit x) (.held v)) (upd f x v):=by
 constructor
 · intro y hy
   unfold upd;by_cases e:y=x
   · subst e
     rw [if_pos rfl];exact has_put_same hD (kk.isk y) _
   · rw [if_neg e,has_put_other (fun e'=>e (kk.inj _ _ e'))]
     exact h.1 y hy
 · intro y u hy hu z
   unfold upd at hu;by_cases e:y=x
   · subst e
     rw [if_pos rfl] at hu
     cases hu
     exact atKey_put_same hD (kk.isk y) _ _
   · rw [if_neg e] at hu
     rw [atKey_put_other (fun e'=>e (kk.inj _ _ e'))]
     exact h.2 y u hy hu z
theorem wpList_put [DecidableEq α] (kk:Key P k α) (w:World) {ops:Array Oper} {rest:List Oper} {o:Oper} {a:Act} {Q:Exit→Act→World→Prop}
 (hg:o.guard=none) (m x v:Operand) (t:TypeId) (hop:o.op=Op.mapUpdate t m x v∨o.op=Op.insert t m x v) (e:TypeId) (ht:P.underlying t=some (.map k e)) (b n:Nat) (f:α→Option Value)
 (hm:a.eval m=.map (some b)) (hown:MapIs kk w b n f) (hn:n<maxLen) (key:α) (hok:kk.ok key) (val:Value) (hx:a.eval x=kk.val key) (hv:a.eval v=val)
 (hK:∀ w',MapIs kk w' b (n+1) (upd f key val)→Keeps (fun g=>g=b) w w'→wpList P ops Q rest (a.put o.dst undef) w') :
 wpList P ops Q (o :: rest) a w:=by
 refine wpList_plain hg fun K' hK'=>?_
 obtain ⟨D,hown,hr⟩:=hown;have hD:=(hown.tidy kk.kd).isMap;obtain ⟨w',hrun,r1,r2⟩:=hown.update kk.kd ht hn (kk.reads key hok) (show RV val=some (.held val,[]) from rfl)
 have hk:=Keeps.grown (S:=fun g=>g=b) r2 (fun j _ e=>(Option.some.inj e).symm)
 unfold Oper.wp
 rcases hop with hop | hop <;> simp [execOp,hop,hm,hx,hv,hrun,Result.andThen] <;> exact hK' _ _ (hK w' ⟨_,r1,hr.put hD key val⟩ hk)
theorem wpList_look (kk:Key P k α) (w:World) {ops:Array Oper} {rest:List Oper} {o:Oper} {a:Act} {Q:Exit→Act→World→Prop}
 (hg:o.guard=none) (m x:Operand) (t:TypeId) (hop:o.op=Op.lookup t m x true) (e:TypeId) (ht:P.underlying t=some (.map k e)) (z:Value) (hz:(zeroValue e).run P w=.ok z w) (b n:Nat) (f:α→Option Value)
 (hm:a.eval m=.map (some b)) (hown:MapIs kk w b n f) (key:α) (hok:kk.ok key) (hx:a.eval x=kk.val key) (r:Option Value) (hr:f key=r)
 (hK:wpList P ops Q rest (a.put o.dst (.tuple #[r.getD z,.bool r.isSome])) w) :
 wpList P ops Q (o :: rest) a w:=by
 obtain ⟨D,hown,hr'⟩:=hown;refine wpList_lookup_own_ok w hg m x t hop k e kk.kd ht RV hz (.held z) [] rfl b n D hm hown _ _ hx (kk.reads key hok) ?_;intro v ps hv
 have hv':D.atKey (kk.lit key) (.held z)=.held v:=by
  have:=Option.some.inj hv;exact (congrArg Prod.fst this).symm
 rw [hr'.1 key hok,hr]
 cases r with
 | none =>
  have hh:=hr'.1 key hok;rw [hr] at hh;rw [atKey_of_not_has hh] at hv'
  cases hv'
  exact hK
 | some u =>
  rw [hr'.2 key u hok hr] at hv'
  cases hv'
  exact hK
theorem wpList_look1 (kk:Key P k α) (w:World) {ops:Array Oper} {rest:List Oper} {o:Oper} {a:Act} {Q:Exit→Act→World→Prop}
 (hg:o.guard=none) (m x:Operand) (t:TypeId) (hop:o.op=Op.lookup t m x false) (e:TypeId) (ht:P.underlying t=some (.map k e)) (z:Value) (hz:(zeroValue e).run P w=.ok z w) (b n:Nat) (f:α→Option Value)
 (hm:a.eval m=.map (some b)) (hown:MapIs kk w b n f) (key:α) (hok:kk.ok key) (hx:a.eval x=kk.val key) (r:Option Value) (hr:f key=r)
 (hK:wpList P ops Q rest (a.put o.dst (r.getD z)) w) :
 wpList P ops Q (o :: rest) a w:=by
 obtain ⟨D,hown,hr'⟩:=hown;obtain ⟨v,ps,hrun,hv⟩:=hown.lookup kk.kd ht hz (show RV z=some (.held z,[]) from rfl) (kk.reads key hok)
 have hv':D.atKey (kk.lit key) (.held z)=.held v:=by
  have:=Option.some.inj hv;exact (congrArg Prod.fst this).symm
 have hK2:wpList P ops Q rest (a.put o.dst v) w:=by
  cases r with
  | none =>
   have hh:=hr'.1 key hok;rw [hr] at hh;rw [atKey_of_not_has hh] at hv'
   cases hv'
   exact hK
  | some u =>
   rw [hr'.2 key u hok hr] at hv'
   cases hv'
   exact hK
 refine wpList_plain hg fun K' hK'=>?_
 unfold Oper.wp;simp [execOp,hop,hm,hx,hrun,Result.andThen]
 exact hK' _ _ hK2
def MapRun (kk:Key P k α) (w:World) (b r n:Nat) (f:α→Option Value) (left:α→Bool) (cnt:Nat):Prop :=
 ∃ D L,w.ranges P k RV b r n D L cnt∧Reads kk D f∧∀ x,kk.ok x→L (kk.lit x)=left x
theorem MapRun.keeps {S:Nat→Prop} {kk:Key P k α} {w w':World} {b r n:Nat} {f:α→Option Value} {left:α→Bool} {cnt:Nat} (h:MapRun kk w b r n f left cnt) (kp:Keeps S w w') (hb:¬ S b) (hr:¬ S r):MapRun kk w' b r n f left cnt:=by
 obtain ⟨D,L,⟨es,clock,since,seen,c0,h1,F,hs,hD,h2,rest⟩,h⟩:=h;exact ⟨D,L,⟨es,clock,since,seen,c0,kp.heap h1 hb,F,hs,hD,kp.heap h2 hr,rest⟩,h⟩
theorem MapRun.left_eq {kk:Key P k α} {w:World} {b r n:Nat} {f:α→Option Value} {left:α→Bool} {cnt:Nat} (h:MapRun kk w b r n f left cnt):w.rangeLeft b r=cnt:=by
 obtain ⟨D,L,h,_⟩:=h;exact h.left_eq
theorem MapRun.lts {kk:Key P k α} {w:World} {b r n:Nat} {f:α→Option Value} {left:α→Bool} {cnt:Nat} (h:MapRun kk w b r n f left cnt):r<w.heap.size∧r≠b∧b<w.heap.size:=by
 obtain ⟨D,L,h,_⟩:=h;exact ⟨h.lt,h.ne,h.owns.lt⟩
theorem wpList_range (kk:Key P k α) (w:World) {ops:Array Oper} {rest:List Oper} {o:Oper} {a:Act} {Q:Exit→Act→World→Prop}
 (hg:o.guard=none) (m:Operand) (t:TypeId) (hop:o.op=Op.range t m) (e:TypeId) (ht:P.underlying t=some (.map k e)) (b n:Nat) (f:α→Option Value)
 (hm:a.eval m=.map (some b)) (hown:MapIs kk w b n f)
 (hK:∀ w' cnt,MapRun kk w' b w.heap.size n f (fun x=>(f x).isSome) cnt→Keeps (fun _=>False) w w'→wpList P ops Q rest (a.put o.dst (.pointer (some ⟨w.heap.size,0,none⟩))) w') :
 wpList P ops Q (o :: rest) a w:=by
 obtain ⟨D,hown,hr⟩:=hown;refine wpList_range_own w hg m t hop k e kk.kd ht RV b n D hm hown ?_;intro w' h1 h2 _;exact hK w' _ ⟨D,_,h1,hr,hr.1⟩ (Keeps.grown h2 (fun _ _ e=>by cases e))
theorem wpList_mstep [DecidableEq α] (kk:Key P k α) (w:World) {ops:Array Oper} {rest:List Oper} {o:Oper} {a:Act} {Q:Exit→Act→World→Prop}
 (hg:o.guard=none) (it:Operand) (hop:o.op=Op.next it false) (b r n:Nat) (f:α→Option Value) (left:α→Bool) (cnt:Nat)
 (hit:a.eval it=.pointer (some ⟨r,0,none⟩)) (h:MapRun kk w b r n f left cnt)
 (hDone:(∀ x,kk.ok x→left x=false)→wpList P ops Q rest (a.put o.dst (.tuple #[.bool false])) w)
 (hMore:∀ (x:α) (v:Value) (w':World) (cnt':Nat),kk.ok x→left x=true→f x=some v→MapRun kk w' b r n f (fun y=>left y && !decide (y=x)) cnt'→cnt'<cnt→Keeps (fun g=>g=r) w w' →
   (Instr.entry (.pointer (some ⟨r,0,none⟩))).run P w'=.ok (.tuple #[kk.val x,v]) w'→wpList P ops Q rest (a.put o.dst (.tuple #[.bool true,kk.val x,v])) w') :
 wpList P ops Q (o :: rest) a w:=by
 obtain ⟨D,L,h,hr,hL⟩:=h;refine wpList_next_ranges w hg it hop k kk.kd RV (fun x:α=>kk.val x) (fun v:Value=>v) (fun key kl hk=>by obtain ⟨x,_,rfl,_⟩:=kk.inv key kl hk;exact ⟨x,rfl⟩) (fun v y _=>⟨v,rfl⟩) b r n D L cnt hit h ?_ ?_
 · intro _ h0
   exact hDone fun x hx=>by rw [← hL x hx];exact h0 _
 · intro x v kl y w' cnt' hkey hl hv hat hrg hlt hgr _ hen
   obtain ⟨x',hok,e1,e2⟩:=kk.inv _ _ hkey;have hy:y.1=.held v:=by rw [← Option.some.inj hv]
   have hh:Maps.has D kl=true:=has_true_of_atKey (y:=y.1) hat;have hkx:kk.val x=kk.val x':=e1;subst e2;rw [hkx] at hen ⊢;have hs:=hr.1 x' hok;rw [hh] at hs;obtain ⟨v',hf⟩:=Option.isSome_iff_exists.1 hs.symm;have:=hr.2 x' v' hok hf (.held v);rw [hat,hy] at this
   cases this
   refine hMore x' v w' cnt' hok (by rw [← hL x' hok];exact hl) hf ⟨D,_,hrg,hr,?_⟩ hlt (Keeps.grown hgr (fun j _ e=>(Option.some.inj e).symm)) hen
   intro z hz
   show (L (kk.lit z) && !(kk.lit z).sameKey (kk.lit x'))=_
   rw [hL z hz];congr 1
   by_cases e:z=x'
   · subst e
     simp
     have:=kk.isk z
     revert this
     cases kk.lit z <;> simp [WideAt.IsKeyLit,Lit.sameKey]
   · rw [sameKey_ne (fun e'=>e (kk.inj _ _ e'))]
     simp [e]
theorem MapRun.cnt_le {kk:Key P k α} {w:World} {b r n:Nat} {f:α→Option Value} {left:α→Bool} {cnt:Nat} (h:MapRun kk w b r n f left cnt):cnt≤n:=by
 obtain ⟨D,L,⟨es,clock,since,seen,c0,h1,F,hs,hD,h2,_,hc,rest⟩,h⟩:=h;rw [← hc];unfold leftOf;exact Nat.le_trans (Array.size_filter_le) hs
theorem MapIs.congr {kk:Key P k α} {w:World} {b n:Nat} {f g:α→Option Value} (h:MapIs kk w b n f) (e:∀ x,kk.ok x→f x=g x):MapIs kk w b n g:=by
 obtain ⟨D,h,h1,h2⟩:=h;refine ⟨D,h,fun x hx=>by rw [← e x hx];exact h1 x hx,fun x v hx hv z=>h2 x v hx (by rw [e x hx];exact hv) z⟩
def blend (f2 f1:α→Option Value) (left:α→Bool):α→Option Value:=fun s=>if (f2 s).isSome && !left s then f2 s else f1 s
theorem blend_start (f2 f1:α→Option Value):blend f2 f1 (fun s=>(f2 s).isSome)=f1:=by
 funext s
 show (if (f2 s).isSome && !(f2 s).isSome then f2 s else f1 s)=f1 s
 cases (f2 s).isSome <;> rfl
theorem blend_step [DecidableEq α] (f2 f1:α→Option Value) (left:α→Bool) (x:α) (v:Value) (hv:f2 x=some v):upd (blend f2 f1 left) x v=blend f2 f1 (fun y=>left y && !decide (y=x)):=by
 funext s
 unfold upd blend;by_cases e:s=x
 · subst e
   simp [hv]
 · simp [e]
def over (f2 f1:α→Option Value):α→Option Value:=fun s=>match f2 s with | some v=>some v | none=>f1 s
theorem blend_end (f2 f1:α→Option Value) (left:α→Bool) (s:α) (h:left s=false):blend f2 f1 left s=over f2 f1 s:=by
 unfold blend over;rw [h]
 cases f2 s <;> rfl
end Go.Proofs.K
