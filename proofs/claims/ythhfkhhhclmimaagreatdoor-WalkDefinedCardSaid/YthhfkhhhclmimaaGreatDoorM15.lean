/- A part of WalkG. No condition. -/
import Derived.Test.YthhfkhhhclmimaaGreatDoorM06
import Derived.Test.YthhfkhhhclmimaaGreatDoorM14
set_option linter.unusedVariables false
set_option linter.unusedSimpArgs false
open Go.Proofs.Tryz
set_option maxRecDepth 10000
set_option maxHeartbeats 4000000
namespace Go.Proofs.dS
open Go Go.RowKit Go.Proofs.K
theorem va(w:World)(b n:Nat)(m:Mem)(a:Int)(h:dY w b n m)(s : -9223372036854775808<=a)(t:a<=9223372036854775807) :
 Calls prog 391 #[cD b,I_ a] w fun e w'=>e=.returned (.tuple #[I_ (Obj.size m a).1,I_ (Obj.size m a).2])/\K_ w w':=by
 have d:=iW w b n m a h s t
 have i:Hid (Obj.size m a=if(Class.cT m a).2=false then(0,-2048)
 else if(Class.cT m a).1.size<8\/1048576<(Class.cT m a).1.size then(0,-256)
 else((Class.cT m a).1.size,0)):=rfl
 generalize Obj.size m a=r at i |-;generalize Class.cT m a=q at d i;obtain⟨⟨v,x,g,xt,y⟩,u⟩:=q;have c:=i.out;simp only at c;unfold pT gJ.val at d;simp only at d;clear i;cases u with
 | false =>
  rw[if_pos rfl]at c;subst c;go_enter func391,ntmps391;go_wp2_with fail;refine d.mono ?_;rintro e l ⟨rfl,f⟩;go_wp2;go_ret2;exact⟨rfl,f.trans (cq.alloc _ _ _)⟩
 | true =>
  rw[if_neg (by simp)]at c;by_cases j:g<8
  . rw[if_pos (.inl j)]at c
    subst c;have o:decide (g<8)=true:=decide_eq_true j;go_enter func391,ntmps391;go_wp2_with fail;refine d.mono ?_;rintro e l ⟨rfl,f⟩;go_wp2;go_ret2;exact⟨rfl,f.trans (cq.alloc _ _ _)⟩
  . have o:decide (g<8)=false:=decide_eq_false j
    by_cases k:1048576<g
    . rw[if_pos (.inr k)]at c
      subst c;have p:decide (1048576<g)=true:=decide_eq_true k;go_enter func391,ntmps391;go_wp2_with fail;refine d.mono ?_;rintro e l ⟨rfl,f⟩;go_wp2;go_ret2;exact⟨rfl,f.trans (cq.alloc _ _ _)⟩
    . rw[if_neg (by omega)]at c
      subst c;have p:decide (1048576<g)=false:=decide_eq_false k;go_enter func391,ntmps391;go_wp2_with fail;refine d.mono ?_;rintro e l ⟨rfl,f⟩;go_wp2;go_ret2;exact⟨rfl,f.trans (cq.alloc _ _ _)⟩
theorem Hs(w:World)(b k:Nat)(m:Mem)(f a:Int)(h:dY w b k m) :
 Calls prog 359 #[cD b,I_ f,I_ a] w fun e w'=>e=.returned (.tuple #[I_ (Obj.j7 m f a).1,I_ (Obj.j7 m f a).2])/\K_ w w':=by
 have g:=eu w b k m a h;have o:=fun c=>qX w b k m f c h;have i:Hid (Obj.j7 m f a=if(m.cell a).2≠0\/Class.is m f (m.cell a).1=false then(0,-2048)else((m.cell a).1,0)):=rfl;generalize Obj.j7 m f a=r at i |-;generalize m.cell a=q at g i;obtain⟨c,e⟩:=q;have d:=i.out;simp only at d g;clear i;have l:=o c;generalize Class.is m f c=s at d l;have p:=h_ l;clear l o;by_cases j:e=0
 . subst j
   cases s with
   | false =>
    rw[if_pos (.inr rfl)]at d;subst d;go_enter func359,ntmps359;go_wp2_with fail;refine eD g ?_;go_wp2_with fail;refine p.out.mono ?_;rintro e t ⟨rfl,n⟩;go_wp2;go_ret2;exact⟨rfl,n⟩
   | true =>
    rw[if_neg (by simp)]at d;subst d;go_enter func359,ntmps359;go_wp2_with fail;refine eD g ?_;go_wp2_with fail;refine p.out.mono ?_;rintro e t ⟨rfl,n⟩;go_wp2;go_ret2;exact⟨rfl,n⟩
 . rw[if_pos (.inl j)]at d
   subst d;have u:(e != 0)=true:=by simp[j]
   clear j;go_enter func359,ntmps359;go_wp2_with fail;refine eD g ?_;go_wp2;go_ret2;exact⟨rfl,cq.refl _ _⟩
theorem Obj.Rv(m:Mem)(b a:Int) : -9223372036854775808<=(Obj.j7 m b a).1/\(Obj.j7 m b a).1<=9223372036854775807:=by
 have:=m.fh a;unfold Obj.j7;split
 . simp
 . exact this
theorem Ln(w:World)(b t:Nat)(m:Mem)(d a f:Int)(h:dY w b t m) :
 Calls prog 417 #[cD b,I_ d,I_ a,I_ f] w fun e w'=>e=.returned (.tuple #[I_ (Obj.send m d a f).1,I_ (Obj.send m d a f).2.1,I_ (Obj.send m d a f).2.2])/\K_ w w':=by
 have k:=Hs w b t m d a h;have u:=Obj.Rv m d a;have i:=fun w h=>nK w b t m (Obj.j7 m d a).1 f h u.1 u.2
 have o:Hid (Obj.send m d a f=if(Obj.j7 m d a).2≠0 then(0,0,(Obj.j7 m d a).2)
 else if(Class.lookup m (Obj.j7 m d a).1 f).2.2=false then(0,(Class.lookup m (Obj.j7 m d a).1 f).2.1,-2049)
 else((Class.lookup m (Obj.j7 m d a).1 f).1.xt,(Class.lookup m (Obj.j7 m d a).1 f).2.1,0)):=rfl
 clear u;generalize Obj.send m d a f=r at o |-;generalize Obj.j7 m d a=q at k o i;obtain⟨c,e⟩:=q;have g:=o.out;simp only at g k i;clear o;generalize Class.lookup m c f=y at g i;obtain⟨⟨B,ex,A⟩,n,x⟩:=y;unfold wD jz.val at i;simp only at g i;by_cases p:e=0
 . subst p
   rw[if_neg (by simp)]at g;cases x with
   | false =>
    rw[if_pos rfl]at g;subst g;go_enter func417,ntmps417;go_wp2_with fail;refine k.mono ?_;rintro e v ⟨rfl,j⟩;go_wp2_with fail;refine(i _ (h.ct j id id)).mono ?_;rintro e z ⟨rfl,l⟩;have s:=j.trans l;clear l;go_wp2;go_ret3;exact⟨rfl,s.trans (cq.alloc _ _ _)⟩
   | true =>
    rw[if_neg (by simp)]at g;subst g;go_enter func417,ntmps417;go_wp2_with fail;refine k.mono ?_;rintro e v ⟨rfl,j⟩;go_wp2_with fail;refine(i _ (h.ct j id id)).mono ?_;rintro e z ⟨rfl,l⟩;have s:=j.trans l;clear l;go_wp2;go_ret3;exact⟨rfl,s.trans (cq.alloc _ _ _)⟩
 . rw[if_pos p]at g
   subst g;have C:(e != 0)=true:=by simp[p]
   clear p;go_enter func417,ntmps417;go_wp2_with fail;refine k.mono ?_;rintro e v ⟨rfl,j⟩;go_wp2;go_ret3;exact⟨rfl,j⟩
end Go.Proofs.dS
