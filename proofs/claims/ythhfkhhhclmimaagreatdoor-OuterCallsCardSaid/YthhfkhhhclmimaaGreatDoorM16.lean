/- Of CallsG: WObj. No condition. -/
import Derived.Test.YthhfkhhhclmimaaGreatDoorM05
import Derived.Test.YthhfkhhhclmimaaGreatDoorM12
set_option linter.unusedVariables false
set_option linter.unusedSimpArgs false
set_option maxRecDepth 10000
set_option maxHeartbeats 4000000
namespace Go.Proofs.Shed
open Go Go.RowKit Go.Proofs.K
theorem obj_size (w:World) (b bb:Nat) (m:Mem) (a:Int) (h:RMem w b bb m) (ha0 : -9223372036854775808≤a) (ha1:a≤9223372036854775807) :
 Calls Tryz.prog 391 #[.pointer (some ⟨b,0,none⟩),.int .i64 a] w fun e w'=>e=.returned (.tuple #[.int .i64 (Obj.size m a).1,.int .i64 (Obj.size m a).2])∧Keeps (fun _=>False) w w':=by
 have H:=h_ h;clear h;have HP:=h_ (class_read w b bb m a H.out ha0 ha1)
 have HD:Hid (Obj.size m a=if (Class.read m a).2=false then (0,-2048)
 else if (Class.read m a).1.size<8∨1048576<(Class.read m a).1.size then (0,-256)
 else ((Class.read m a).1.size,0)):=rfl
 generalize Obj.size m a=r at HD ⊢;generalize Class.read m a=q at HP HD;obtain ⟨⟨xa,xp,xs,xt,xv⟩,ok⟩:=q;have hr:=HD.out;simp only at hr
 unfold readV Cls.val at HP;simp only at HP
 clear HD
 cases ok with
 | false =>
  rw [if_pos rfl] at hr;subst hr
  go_enter Tryz.func391,Tryz.ntmps391
  go_wp2_with fail;refine HP.out.mono ?_;rintro e w1 ⟨rfl,k1⟩;have K1:=h_ k1;clear k1;go_wp2_with fail;go_ret2
  exact ⟨rfl,K1.out.trans (Keeps.alloc _ _ _)⟩
 | true =>
  rw [if_neg (by simp)] at hr
  by_cases h1:xs<8
  · rw [if_pos (.inl h1)] at hr
    subst hr;have d1:decide (xs<8)=true:=decide_eq_true h1
    go_enter Tryz.func391,Tryz.ntmps391
    go_wp2_with fail;refine HP.out.mono ?_;rintro e w1 ⟨rfl,k1⟩;have K1:=h_ k1;clear k1;go_wp2_with fail;go_ret2
    exact ⟨rfl,K1.out.trans (Keeps.alloc _ _ _)⟩
  · have d1:decide (xs<8)=false:=decide_eq_false h1
    by_cases h2:1048576<xs
    · rw [if_pos (.inr h2)] at hr
      subst hr;have d2:decide (1048576<xs)=true:=decide_eq_true h2
      go_enter Tryz.func391,Tryz.ntmps391
      go_wp2_with fail;refine HP.out.mono ?_;rintro e w1 ⟨rfl,k1⟩;have K1:=h_ k1;clear k1;go_wp2_with fail;go_ret2
      exact ⟨rfl,K1.out.trans (Keeps.alloc _ _ _)⟩
    · rw [if_neg (by omega)] at hr
      subst hr;have d2:decide (1048576<xs)=false:=decide_eq_false h2
      go_enter Tryz.func391,Tryz.ntmps391
      go_wp2_with fail;refine HP.out.mono ?_;rintro e w1 ⟨rfl,k1⟩;have K1:=h_ k1;clear k1;go_wp2_with fail;go_ret2
      exact ⟨rfl,K1.out.trans (Keeps.alloc _ _ _)⟩
theorem obj_class (w:World) (b bb:Nat) (m:Mem) (root a:Int) (h:RMem w b bb m) :
 Calls Tryz.prog 359 #[.pointer (some ⟨b,0,none⟩),.int .i64 root,.int .i64 a] w fun e w'=>e=.returned (.tuple #[.int .i64 (Obj.cls m root a).1,.int .i64 (Obj.cls m root a).2])∧Keeps (fun _=>False) w w':=by
 have H:=h_ h;clear h;have HP:=h_ (mem_cell w b bb m a H.out);have HI:=h_ fun c=>class_is w b bb m root c H.out
 have HD:Hid (Obj.cls m root a=if (m.cell a).2≠0∨Class.is m root (m.cell a).1=false then (0,-2048) else ((m.cell a).1,0)):=rfl
 generalize Obj.cls m root a=r at HD ⊢;generalize m.cell a=q at HP HD;obtain ⟨c,e⟩:=q;have hr:=HD.out;simp only at hr HP
 clear HD;have hI:=HI.out c;generalize Class.is m root c=ok at hr hI;have HI':=h_ hI;clear hI HI;by_cases he:e=0
 · subst he
   cases ok with
   | false =>
    rw [if_pos (.inr rfl)] at hr;subst hr
    go_enter Tryz.func359,Tryz.ntmps359
    go_wp2_with fail;refine HP.out.mono ?_;rintro e w1 ⟨rfl,rfl⟩;go_wp2_with fail;refine HI'.out.mono ?_;rintro e w1 ⟨rfl,k1⟩;have K1:=h_ k1;clear k1;go_wp2_with fail;go_ret2
    exact ⟨rfl,K1.out⟩
   | true =>
    rw [if_neg (by simp)] at hr
    subst hr
    go_enter Tryz.func359,Tryz.ntmps359
    go_wp2_with fail;refine HP.out.mono ?_;rintro e w1 ⟨rfl,rfl⟩;go_wp2_with fail;refine HI'.out.mono ?_;rintro e w1 ⟨rfl,k1⟩;have K1:=h_ k1;clear k1;go_wp2_with fail;go_ret2
    exact ⟨rfl,K1.out⟩
 · rw [if_pos (.inl he)] at hr
   subst hr;have he':(e != 0)=true:=by simp [he]
   clear he
   go_enter Tryz.func359,Tryz.ntmps359
   go_wp2_with fail;refine HP.out.mono ?_;rintro e w1 ⟨rfl,rfl⟩;go_wp2_with fail;go_ret2
   exact ⟨rfl,Keeps.refl _ _⟩
theorem Obj.cls_bd (m:Mem) (root a:Int) : -9223372036854775808≤(Obj.cls m root a).1∧(Obj.cls m root a).1≤9223372036854775807:=by
 have:=m.cell_bd a;unfold Obj.cls;split
 · simp
 · exact this
theorem obj_send (w:World) (b bb:Nat) (m:Mem) (root a sel:Int) (h:RMem w b bb m) :
 Calls Tryz.prog 417 #[.pointer (some ⟨b,0,none⟩),.int .i64 root,.int .i64 a,.int .i64 sel] w fun e w'=>e=.returned (.tuple #[.int .i64 (Obj.send m root a sel).1,.int .i64 (Obj.send m root a sel).2.1,.int .i64 (Obj.send m root a sel).2.2])∧Keeps (fun _=>False) w w':=by
 have H:=h_ h;clear h;have HP:=h_ (obj_class w b bb m root a H.out);have hbd:=Obj.cls_bd m root a;have HL:=h_ fun w H=>class_lookup w b bb m (Obj.cls m root a).1 sel H hbd.1 hbd.2
 have HD:Hid (Obj.send m root a sel=if (Obj.cls m root a).2≠0 then (0,0,(Obj.cls m root a).2)
 else if (Class.lookup m (Obj.cls m root a).1 sel).2.2=false then (0,(Class.lookup m (Obj.cls m root a).1 sel).2.1,-2049)
 else ((Class.lookup m (Obj.cls m root a).1 sel).1.xt,(Class.lookup m (Obj.cls m root a).1 sel).2.1,0)):=rfl
 clear hbd;generalize Obj.send m root a sel=r at HD ⊢;generalize Obj.cls m root a=q at HP HD HL;obtain ⟨c,e⟩:=q;have hr:=HD.out;simp only at hr HP HL
 clear HD;generalize Class.lookup m c sel=y at hr HL;obtain ⟨⟨es,ex,ec⟩,n,ok⟩:=y;unfold getV Ent.val at HL;simp only at hr HL
 by_cases he:e=0
 · subst he
   rw [if_neg (by simp)] at hr
   cases ok with
   | false =>
    rw [if_pos rfl] at hr;subst hr
    go_enter Tryz.func417,Tryz.ntmps417
    go_wp2_with fail;refine HP.out.mono ?_;rintro e w1 ⟨rfl,k1⟩;have K1:=h_ k1;clear k1;go_wp2_with fail;refine (HL.out _ (H.out.keeps K1.out id id)).mono ?_;rintro e w2 ⟨rfl,k2⟩;have K2:=h_ (K1.out.trans k2);clear k2;go_wp2_with fail
    go_ret3
    exact ⟨rfl,K2.out.trans (Keeps.alloc _ _ _)⟩
   | true =>
    rw [if_neg (by simp)] at hr
    subst hr
    go_enter Tryz.func417,Tryz.ntmps417
    go_wp2_with fail;refine HP.out.mono ?_;rintro e w1 ⟨rfl,k1⟩;have K1:=h_ k1;clear k1;go_wp2_with fail;refine (HL.out _ (H.out.keeps K1.out id id)).mono ?_;rintro e w2 ⟨rfl,k2⟩;have K2:=h_ (K1.out.trans k2);clear k2;go_wp2_with fail
    go_ret3
    exact ⟨rfl,K2.out.trans (Keeps.alloc _ _ _)⟩
 · rw [if_pos he] at hr
   subst hr;have he':(e != 0)=true:=by simp [he]
   clear he
   go_enter Tryz.func417,Tryz.ntmps417
   go_wp2_with fail;refine HP.out.mono ?_;rintro e w1 ⟨rfl,k1⟩;have K1:=h_ k1;clear k1;go_wp2_with fail
   go_ret3
   exact ⟨rfl,K1.out⟩
end Go.Proofs.Shed
