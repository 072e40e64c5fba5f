/- Of CallsG: WCalG. No condition. -/
import Derived.Test.YthhfkhhhclmimaaGreatDoorM48
set_option linter.unusedVariables false
set_option linter.unusedSimpArgs false
set_option maxRecDepth 10000
set_option maxHeartbeats 4000000
namespace Go.Proofs.Shed
open Go Go.RowKit Go.Proofs.K Go.Proofs.Cod
structure Looked (w:World) (ob mb s b db q:Nat) (comp:Bool) (out:List UInt8):Prop where
 o0:w.cell? ⟨ob,0,none⟩=some (.pointer (some ⟨mb,0,none⟩))
 o1:w.cell? ⟨ob,1,none⟩=some (.pointer (some ⟨q,0,none⟩))
 o4:w.cell? ⟨ob,4,none⟩=some (.bool comp)
 m0:w.cell? ⟨mb,0,none⟩=some (.pointer (some ⟨s,0,none⟩))
 m1:w.cell? ⟨mb,1,none⟩=some (.pointer (some ⟨db,0,none⟩))
 m11:w.cell? ⟨mb,11,none⟩=some (.string ⟨out.toArray⟩)
 ms:w.cell? ⟨s,0,none⟩=some (.pointer (some ⟨b,0,none⟩))
theorem Looked.keeps {w w':World} {ob mb s b db q:Nat} {comp:Bool} {out:List UInt8} (h:Looked w ob mb s b db q comp out) (k:Keeps (fun _=>False) w w'):Looked w' ob mb s b db q comp out :=
 ⟨k.cell h.o0 id,k.cell h.o1 id,k.cell h.o4 id,k.cell h.m0 id,k.cell h.m1 id,k.cell h.m11 id,k.cell h.ms id⟩
theorem RRd.looked {w:World} {G:Gk} {X:Nat→Prop} {r:Rd} (h:RRd w G X r):∃ q,RSrc w q r.src r.at_∧Looked w G.ob G.K.mb G.K.s G.K.b G.K.db q r.comp r.v.out :=
 h.read.elim fun q hq=>⟨q,hq.2.1,⟨h.o0,hq.1,h.o4,h.v0,h.v1,h.fv.m11,h.vs⟩⟩
theorem alike17 (w:World) (Ga Gb:Gk) (Xa Xb:Nat→Prop) (ra rb:Rd) (ha:RRd w Ga Xa ra) (hb:RRd w Gb Xb rb) (x:Sp) (hxa:ra.v.x=x) (hxb:rb.v.x=x) (L:List Int) (hla:Stk.all x.mem ra.v.d=L) (hlb:Stk.all x.mem rb.v.d=L) (hl:L.length≤1000)
 (hc:rb.comp=ra.comp) (ho:rb.v.out=ra.v.out) (rt:List UInt8) (hra:ra.src.drop ra.at_=rt) (hrb:rb.src.drop rb.at_=rt) :
 Calls Tryz.prog 40 #[.pointer (some ⟨Ga.ob,0,none⟩),.pointer (some ⟨Gb.ob,0,none⟩)] w fun e w'=>e=.returned (.bool true)∧Keeps (fun _=>False) w w':=by
 obtain ⟨qa,sa,la⟩:=ha.looked;obtain ⟨qb,sb,lb⟩:=hb.looked;have va:=ha.fv;have vb:=hb.fv;have HSA:=h_ fun V (k:Keeps (fun _=>False) w V)=>mem_size V Ga.K.b Ga.K.bb x.mem (hxa ▸ (va.keeps0 k).vm.sp.mem)
 have HSB:=h_ fun V (k:Keeps (fun _=>False) w V)=>mem_size V Gb.K.b Gb.K.bb x.mem (hxb ▸ (vb.keeps0 k).vm.sp.mem)
 have ht:x.mem.text 0 x.mem.size=(bytesN x.mem.size (x.mem.get 0 x.mem.size),0):=by
  unfold Mem.text;rw [if_pos (by rw [x.mem.has_iff];omega)]
  rfl
 have HTA:=h_ fun V (k:Keeps (fun _=>False) w V)=>(show Calls Tryz.prog 92 #[.pointer (some ⟨Ga.K.b,0,none⟩),.int .i64 0,.int .i64 x.mem.size] V fun e w'=>e=.returned (.tuple #[strV (bytesN x.mem.size (x.mem.get 0 x.mem.size)),.int .i64 0])∧V=w' from by
  have h:=mem_text V Ga.K.b Ga.K.bb x.mem 0 x.mem.size (hxa ▸ (va.keeps0 k).vm.sp.mem);rw [ht] at h
  exact h)
 have HTB:=h_ fun V (k:Keeps (fun _=>False) w V)=>(show Calls Tryz.prog 92 #[.pointer (some ⟨Gb.K.b,0,none⟩),.int .i64 0,.int .i64 x.mem.size] V fun e w'=>e=.returned (.tuple #[strV (bytesN x.mem.size (x.mem.get 0 x.mem.size)),.int .i64 0])∧V=w' from by
  have h:=mem_text V Gb.K.b Gb.K.bb x.mem 0 x.mem.size (hxb ▸ (vb.keeps0 k).vm.sp.mem);rw [ht] at h
  exact h)
 have HHA:=h_ fun V (k:Keeps (fun _=>False) w V)=>sp_here V Ga.K.s Ga.K.b Ga.K.bb x (hxa ▸ (va.keeps0 k).vm.sp)
 have HHB:=h_ fun V (k:Keeps (fun _=>False) w V)=>sp_here V Gb.K.s Gb.K.b Gb.K.bb x (hxb ▸ (vb.keeps0 k).vm.sp)
 have HAA:=h_ fun V (k:Keeps (fun _=>False) w V)=>(show Calls Tryz.prog 20 #[.pointer (some ⟨Ga.K.db,0,none⟩)] V fun e w'=>∃ a c,e=.returned (.slice a L.length c)∧ArgI w' a L∧Keeps (fun _=>False) V w' from by
  have h:=stk_all V Ga.K.db Ga.K.b Ga.K.bb ra.v.d ra.v.x.mem (va.keeps0 k).vm.dk (va.keeps0 k).vm.sp.mem;rw [hxa,hla] at h
  exact h.mono fun e w' ⟨a,c,h1,h2,h3⟩=>⟨a,c,h1,h2.arg,h3⟩)
 have HAB:=h_ fun V (k:Keeps (fun _=>False) w V)=>(show Calls Tryz.prog 20 #[.pointer (some ⟨Gb.K.db,0,none⟩)] V fun e w'=>∃ a c,e=.returned (.slice a L.length c)∧ArgI w' a L∧Keeps (fun _=>False) V w' from by
  have h:=stk_all V Gb.K.db Gb.K.b Gb.K.bb rb.v.d rb.v.x.mem (vb.keeps0 k).vm.dk (vb.keeps0 k).vm.sp.mem;rw [hxb,hlb] at h
  exact h.mono fun e w' ⟨a,c,h1,h2,h3⟩=>⟨a,c,h1,h2.arg,h3⟩)
 have HRA:=h_ fun V (k:Keeps (fun _=>False) w V)=>(show Calls Tryz.prog 27 #[.pointer (some ⟨qa,0,none⟩)] V fun e w'=>e=.returned (.string ⟨rt.toArray⟩)∧Keeps (fun _=>False) V w' from hra ▸ src_rest V qa ra.src ra.at_ (sa.keeps k id))
 have HRB:=h_ fun V (k:Keeps (fun _=>False) w V)=>(show Calls Tryz.prog 27 #[.pointer (some ⟨qb,0,none⟩)] V fun e w'=>e=.returned (.string ⟨rt.toArray⟩)∧Keeps (fun _=>False) V w' from hrb ▸ src_rest V qb rb.src rb.at_ (sb.keeps k id))
 rw [hc,ho] at lb;have LA:=h_ fun V (k:Keeps (fun _=>False) w V)=>la.keeps k
 have LB:=h_ fun V (k:Keeps (fun _=>False) w V)=>lb.keeps k
 clear va vb hxa hxb hla hlb hc ho hra hrb ha hb la lb sa sb ht;generalize bytesN x.mem.size (x.mem.get 0 x.mem.size)=T at HTA HTB;dsimp only [strV] at HTA HTB;generalize (x.mem.size:Int)=sz at HSA HSB HTA HTB;generalize x.here=here at HHA HHB;generalize ra.comp=comp at LA LB;generalize ra.v.out=out at LA LB;generalize Ga.ob=oa at LA ⊢;generalize Gb.ob=ob at LB ⊢;generalize Ga.K.mb=ma at LA;generalize Gb.K.mb=mb at LB;generalize Ga.K.s=s1 at LA HHA;generalize Gb.K.s=s2 at LB HHB;generalize Ga.K.b=b1 at LA HSA HTA;generalize Gb.K.b=b2 at LB HSB HTB;generalize Ga.K.db=d1 at LA HAA;generalize Gb.K.db=d2 at LB HAB;obtain ⟨a0,a1,a4,am0,am1,am11,ams⟩:=LA.out w (Keeps.refl _ _)
 go_enter Tryz.func40,Tryz.ntmps40
 go_wp2_with fail
 go_region_held3 (fun V=>V.cell? ⟨oa,0,none⟩=some (.pointer (some ⟨ma,0,none⟩))∧V.cell? ⟨ma,0,none⟩=some (.pointer (some ⟨s1,0,none⟩))∧V.cell? ⟨s1,0,none⟩=some (.pointer (some ⟨b1,0,none⟩)))
  (first | exact ⟨(LA.out w.drew (Keeps.drew _ _)).o0,(LA.out w.drew (Keeps.drew _ _)).m0,(LA.out w.drew (Keeps.drew _ _)).ms⟩ | go_keep)
  (first
    | (go_at_call 93;refine (HSA.out w.drew (Keeps.drew _ _)).mono ?_;rintro e w1 ⟨rfl,rfl⟩;dsimp only)
    | (go_at_call 92;refine (HTA.out w.drew (Keeps.drew _ _)).mono ?_;rintro e w1 ⟨rfl,rfl⟩;dsimp only))
 have K1:=h_ (kd_ w);generalize w.drew=W at K1 ⊢;clear a0 a1 a4 am0 am1 am11 ams HSA HTA;obtain ⟨a0,a1,a4,am0,am1,am11,ams⟩:=LA.out W K1.out;obtain ⟨c0,c1,c4,cm0,cm1,cm11,cms⟩:=LB.out W K1.out
 have HALL:=h_ (show ∀ V,Keeps (fun _=>False) w V→V.cell? ⟨oa,0,none⟩=some (.pointer (some ⟨ma,0,none⟩))∧V.cell? ⟨oa,1,none⟩=some (.pointer (some ⟨qa,0,none⟩))∧V.cell? ⟨oa,4,none⟩=some (.bool comp)∧V.cell? ⟨ma,0,none⟩=some (.pointer (some ⟨s1,0,none⟩))∧V.cell? ⟨ma,1,none⟩=some (.pointer (some ⟨d1,0,none⟩))∧V.cell? ⟨ma,11,none⟩=some (.string ⟨out.toArray⟩) ∧
  V.cell? ⟨ob,0,none⟩=some (.pointer (some ⟨mb,0,none⟩))∧V.cell? ⟨ob,1,none⟩=some (.pointer (some ⟨qb,0,none⟩))∧V.cell? ⟨ob,4,none⟩=some (.bool comp)∧V.cell? ⟨mb,0,none⟩=some (.pointer (some ⟨s2,0,none⟩))∧V.cell? ⟨mb,1,none⟩=some (.pointer (some ⟨d2,0,none⟩))∧V.cell? ⟨mb,11,none⟩=some (.string ⟨out.toArray⟩)∧V.cell? ⟨s2,0,none⟩=some (.pointer (some ⟨b2,0,none⟩)) from
  fun V k=>⟨(LA.out V k).o0,(LA.out V k).o1,(LA.out V k).o4,(LA.out V k).m0,(LA.out V k).m1,(LA.out V k).m11,(LB.out V k).o0,(LB.out V k).o1,(LB.out V k).o4,(LB.out V k).m0,(LB.out V k).m1,(LB.out V k).m11,(LB.out V k).ms⟩)
 go_wp2_with fail
 (try dsimp only [List.append])
 go_region_held3 (fun V=>V.cell? ⟨ob,0,none⟩=some (.pointer (some ⟨mb,0,none⟩))∧V.cell? ⟨mb,0,none⟩=some (.pointer (some ⟨s2,0,none⟩))∧V.cell? ⟨s2,0,none⟩=some (.pointer (some ⟨b2,0,none⟩)))
  (first | exact ⟨(LB.out W.drew (K1.out.trans (Keeps.drew _ _))).o0,(LB.out W.drew (K1.out.trans (Keeps.drew _ _))).m0,(LB.out W.drew (K1.out.trans (Keeps.drew _ _))).ms⟩ | go_keep)
  (first
    | (go_at_call 93;refine (HSB.out W.drew (K1.out.trans (Keeps.drew _ _))).mono ?_;rintro e w0 ⟨rfl,rfl⟩;dsimp only)
    | (go_at_call 92;refine (HTB.out W.drew (K1.out.trans (Keeps.drew _ _))).mono ?_;rintro e w0 ⟨rfl,rfl⟩;dsimp only))
 have K2:=h_ (K1.out.trans (kd_ W));generalize W.drew=U at K2 ⊢;clear LA LB ams K1 HSB HTB a0 a1 a4 am0 am1 am11 c0 c1 c4 cm0 cm1 cm11 cms;obtain ⟨a0,a1,a4,am0,am1,am11,c0,c1,c4,cm0,cm1,cm11,cms⟩:=HALL.out U K2.out;have kd:=K2.out.trans (kd_ U);go_wp2_with fail
 (try dsimp only [List.append])
 refine wp_region_held_drew (S:=(fun V=>V.cell? ⟨oa,0,none⟩=some (.pointer (some ⟨ma,0,none⟩))∧V.cell? ⟨oa,1,none⟩=some (.pointer (some ⟨qa,0,none⟩))∧V.cell? ⟨oa,4,none⟩=some (.bool comp)∧V.cell? ⟨ma,0,none⟩=some (.pointer (some ⟨s1,0,none⟩))∧V.cell? ⟨ma,1,none⟩=some (.pointer (some ⟨d1,0,none⟩))∧V.cell? ⟨ma,11,none⟩=some (.string ⟨out.toArray⟩) ∧
  V.cell? ⟨ob,0,none⟩=some (.pointer (some ⟨mb,0,none⟩))∧V.cell? ⟨ob,1,none⟩=some (.pointer (some ⟨qb,0,none⟩))∧V.cell? ⟨ob,4,none⟩=some (.bool comp)∧V.cell? ⟨mb,0,none⟩=some (.pointer (some ⟨s2,0,none⟩))∧V.cell? ⟨mb,1,none⟩=some (.pointer (some ⟨d2,0,none⟩))∧V.cell? ⟨mb,11,none⟩=some (.string ⟨out.toArray⟩)∧V.cell? ⟨s2,0,none⟩=some (.pointer (some ⟨b2,0,none⟩)))) (by kernel_rfl) ?hSa (fun hHeld=>?resta)
 case hSa=>exact HALL.out U.drew kd
 refine wpAnyH_take (i := 0) (oi := { dst := some 59, op := Op.move (Operand.tmp 6), type := 25, pos := "law.go:96", after := #[], guard := none }) (v := ?vv0) rfl (by kernel_rfl) (by kernel_rfl) (by kernel_rfl) (fun _ _ _ h => h) (Or.inl ⟨by rfl, ?hy0⟩) (by assumption) ?rest0
 case hy0=>(intro w hSw;(try dsimp only at hSw);go_simp;try with_reducible rfl)
 try simp only [Act.put,List.setIfInBounds_toArray]
 try dsimp only [List.set_cons_zero,List.set_cons_succ]
 refine wpAnyH_take (i := 1) (oi := { dst := some 60, op := Op.binOp BinOp.eql 25 (Operand.tmp 59) (Operand.const (Value.int IntKind.i64 0)) 25, type := 4, pos := "law.go:96", after := #[{ on := 0, ground := Ground.data }], guard := none }) (v := ?vv1) rfl (by kernel_rfl) (by kernel_rfl) (by kernel_rfl) (fun _ _ _ h => h) (Or.inl ⟨by rfl, ?hy1⟩) (by assumption) ?rest1
 case hy1=>(intro w hSw;(try dsimp only at hSw);go_simp;try with_reducible rfl)
 try simp only [Act.put,List.setIfInBounds_toArray]
 try dsimp only [List.set_cons_zero,List.set_cons_succ]
 refine wpAnyH_take (i := 2) (oi := { dst := some 61, op := Op.move (Operand.tmp 60), type := 4, pos := "law.go:96", after := #[{ on := 1, ground := Ground.data }], guard := none }) (v := ?vv2) rfl (by kernel_rfl) (by kernel_rfl) (by kernel_rfl) (fun _ _ _ h => h) (Or.inl ⟨by rfl, ?hy2⟩) (by assumption) ?rest2
 case hy2=>(intro w hSw;(try dsimp only at hSw);go_simp;try with_reducible rfl)
 try simp only [Act.put,List.setIfInBounds_toArray]
 try dsimp only [List.set_cons_zero,List.set_cons_succ]
 refine wpAnyH_take (i := 3) (oi := { dst := some 62, op := Op.move (Operand.tmp 8), type := 25, pos := "law.go:96", after := #[{ on := 2, ground := Ground.guard }], guard := some (2, true) }) (v := ?vv3) rfl (by kernel_rfl) (by kernel_rfl) (by kernel_rfl) (fun _ _ _ h => h) (Or.inl ⟨by rfl, ?hy3⟩) (by assumption) ?rest3
 case hy3=>(intro w hSw;(try dsimp only at hSw);go_simp;try with_reducible rfl)
 try simp only [Act.put,List.setIfInBounds_toArray]
 try dsimp only [List.set_cons_zero,List.set_cons_succ]
 refine wpAnyH_take (i := 4) (oi := { dst := some 63, op := Op.binOp BinOp.eql 25 (Operand.tmp 62) (Operand.const (Value.int IntKind.i64 0)) 25, type := 4, pos := "law.go:96", after := #[{ on := 3, ground := Ground.data }, { on := 2, ground := Ground.guard }], guard := some (2, true) }) (v := ?vv4) rfl (by kernel_rfl) (by kernel_rfl) (by kernel_rfl) (fun _ _ _ h => h) (Or.inl ⟨by rfl, ?hy4⟩) (by assumption) ?rest4
 case hy4=>(intro w hSw;(try dsimp only at hSw);go_simp;try with_reducible rfl)
 try simp only [Act.put,List.setIfInBounds_toArray]
 try dsimp only [List.set_cons_zero,List.set_cons_succ]
 refine wpAnyH_take (i := 5) (oi := { dst := some 64, op := Op.pick (Operand.tmp 61) (Operand.tmp 63) (Operand.const (Value.bool false)), type := 4, pos := "law.go:96", after := #[{ on := 2, ground := Ground.data }, { on := 4, ground := Ground.data }], guard := none }) (v := ?vv5) rfl (by kernel_rfl) (by kernel_rfl) (by kernel_rfl) (fun _ _ _ h => h) (Or.inl ⟨by rfl, ?hy5⟩) (by assumption) ?rest5
 case hy5=>(intro w hSw;(try dsimp only at hSw);go_simp;try with_reducible rfl)
 try simp only [Act.put,List.setIfInBounds_toArray]
 try dsimp only [List.set_cons_zero,List.set_cons_succ]
 refine wpAnyH_take (i := 6) (oi := { dst := some 65, op := Op.move (Operand.tmp 64), type := 4, pos := "law.go:96", after := #[{ on := 5, ground := Ground.data }, { on := 2, ground := Ground.chain }], guard := none }) (v := ?vv6) rfl (by kernel_rfl) (by kernel_rfl) (by kernel_rfl) (fun _ _ _ h => h) (Or.inl ⟨by rfl, ?hy6⟩) (by assumption) ?rest6
 case hy6=>(intro w hSw;(try dsimp only at hSw);go_simp;try with_reducible rfl)
 try simp only [Act.put,List.setIfInBounds_toArray]
 try dsimp only [List.set_cons_zero,List.set_cons_succ]
 refine wpAnyH_take (i := 7) (oi := { dst := some 66, op := Op.move (Operand.tmp 5), type := 9, pos := "law.go:96", after := #[{ on := 6, ground := Ground.guard }], guard := some (6, true) }) (v := ?vv7) rfl (by kernel_rfl) (by kernel_rfl) (by kernel_rfl) (fun _ _ _ h => h) (Or.inl ⟨by rfl, ?hy7⟩) (by assumption) ?rest7
 case hy7=>(intro w hSw;(try dsimp only at hSw);go_simp;try with_reducible rfl)
 try simp only [Act.put,List.setIfInBounds_toArray]
 try dsimp only [List.set_cons_zero,List.set_cons_succ]
 refine wpAnyH_take (i := 8) (oi := { dst := some 67, op := Op.move (Operand.tmp 7), type := 9, pos := "law.go:96", after := #[{ on := 6, ground := Ground.guard }], guard := some (6, true) }) (v := ?vv8) rfl (by kernel_rfl) (by kernel_rfl) (by kernel_rfl) (fun _ _ _ h => h) (Or.inl ⟨by rfl, ?hy8⟩) (by assumption) ?rest8
 case hy8=>(intro w hSw;(try dsimp only at hSw);go_simp;try with_reducible rfl)
 try simp only [Act.put,List.setIfInBounds_toArray]
 try dsimp only [List.set_cons_zero,List.set_cons_succ]
 refine wpAnyH_take (i := 9) (oi := { dst := some 68, op := Op.binOp BinOp.eql 9 (Operand.tmp 66) (Operand.tmp 67) 9, type := 4, pos := "law.go:96", after := #[{ on := 7, ground := Ground.data }, { on := 8, ground := Ground.data }, { on := 6, ground := Ground.guard }], guard := some (6, true) }) (v := ?vv9) rfl (by kernel_rfl) (by kernel_rfl) (by kernel_rfl) (fun _ _ _ h => h) (Or.inl ⟨by rfl, ?hy9⟩) (by assumption) ?rest9
 case hy9=>(intro w hSw;(try dsimp only at hSw);go_simp;try with_reducible rfl)
 try simp only [Act.put,List.setIfInBounds_toArray]
 try dsimp only [List.set_cons_zero,List.set_cons_succ]
 refine wpAnyH_take (i := 10) (oi := { dst := some 69, op := Op.pick (Operand.tmp 65) (Operand.tmp 68) (Operand.const (Value.bool false)), type := 4, pos := "law.go:96", after := #[{ on := 6, ground := Ground.data }, { on := 9, ground := Ground.data }], guard := none }) (v := ?vv10) rfl (by kernel_rfl) (by kernel_rfl) (by kernel_rfl) (fun _ _ _ h => h) (Or.inl ⟨by rfl, ?hy10⟩) (by assumption) ?rest10
 case hy10=>(intro w hSw;(try dsimp only at hSw);go_simp;try with_reducible rfl)
 try simp only [Act.put,List.setIfInBounds_toArray]
 try dsimp only [List.set_cons_zero,List.set_cons_succ]
 as_aux_lemma =>
  refine wpAnyH_take (i := 11) (oi := { dst := some 70, op := Op.move (Operand.tmp 69), type := 4, pos := "law.go:96", after := #[{ on := 10, ground := Ground.data }, { on := 6, ground := Ground.chain }], guard := none }) (v := ?vv11) rfl (by kernel_rfl) (by kernel_rfl) (by kernel_rfl) (fun _ _ _ h => h) (Or.inl ⟨by rfl, ?hy11⟩) (by assumption) ?rest11
  case hy11=>(intro w hSw;(try dsimp only at hSw);go_simp;try with_reducible rfl)
  try simp only [Act.put,List.setIfInBounds_toArray]
  try dsimp only [List.set_cons_zero,List.set_cons_succ]
  refine wpAnyH_take (i := 12) (oi := { dst := some 71, op := Op.move (Operand.tmp 0), type := 39, pos := "law.go:96", after := #[{ on := 11, ground := Ground.guard }], guard := some (11, true) }) (v := ?vv12) rfl (by kernel_rfl) (by kernel_rfl) (by kernel_rfl) (fun _ _ _ h => h) (Or.inl ⟨by rfl, ?hy12⟩) (by assumption) ?rest12
  case hy12=>(intro w hSw;(try dsimp only at hSw);go_simp;try with_reducible rfl)
  try simp only [Act.put,List.setIfInBounds_toArray]
  try dsimp only [List.set_cons_zero,List.set_cons_succ]
  refine wpAnyH_take (i := 13) (oi := { dst := some 72, op := Op.nilCheck (Operand.tmp 71), type := 0, pos := "law.go:96", after := #[{ on := 12, ground := Ground.data }, { on := 11, ground := Ground.guard }], guard := some (11, true) }) (v := ?vv13) rfl (by kernel_rfl) (by kernel_rfl) (by kernel_rfl) (fun _ _ _ h => h) (Or.inl ⟨by rfl, ?hy13⟩) (by assumption) ?rest13
  case hy13=>(intro w hSw;(try dsimp only at hSw);go_simp;try with_reducible rfl)
  try simp only [Act.put,List.setIfInBounds_toArray]
  try dsimp only [List.set_cons_zero,List.set_cons_succ]
  refine wpAnyH_take (i := 14) (oi := { dst := some 73, op := Op.fieldAddr 59 (Operand.tmp 72) 0, type := 0, pos := "law.go:96", after := #[{ on := 13, ground := Ground.data }, { on := 11, ground := Ground.guard }], guard := some (11, true) }) (v := ?vv14) rfl (by kernel_rfl) (by kernel_rfl) (by kernel_rfl) (fun _ _ _ h => h) (Or.inl ⟨by rfl, ?hy14⟩) (by assumption) ?rest14
  case hy14=>(intro w hSw;(try dsimp only at hSw);go_simp;try with_reducible rfl)
  try simp only [Act.put,List.setIfInBounds_toArray]
  try dsimp only [List.set_cons_zero,List.set_cons_succ]
  refine wpAnyH_take (i := 15) (oi := { dst := some 74, op := Op.load 35 (Operand.tmp 73), type := 35, pos := "law.go:96", after := #[{ on := 14, ground := Ground.data }, { on := 11, ground := Ground.guard }], guard := some (11, true) }) (v := ?vv15) rfl (by kernel_rfl) (by kernel_rfl) (by kernel_rfl) (fun _ _ _ h => h) (Or.inl ⟨by rfl, ?hy15⟩) (by assumption) ?rest15
  case hy15=>(intro w hSw;(try dsimp only at hSw);go_simp;try with_reducible rfl)
  try simp only [Act.put,List.setIfInBounds_toArray]
  try dsimp only [List.set_cons_zero,List.set_cons_succ]
  refine wpAnyH_take (i := 16) (oi := { dst := some 75, op := Op.nilCheck (Operand.tmp 74), type := 0, pos := "law.go:96", after := #[{ on := 15, ground := Ground.data }, { on := 11, ground := Ground.guard }], guard := some (11, true) }) (v := ?vv16) rfl (by kernel_rfl) (by kernel_rfl) (by kernel_rfl) (fun _ _ _ h => h) (Or.inl ⟨by rfl, ?hy16⟩) (by assumption) ?rest16
  case hy16=>(intro w hSw;(try dsimp only at hSw);go_simp;try with_reducible rfl)
  try simp only [Act.put,List.setIfInBounds_toArray]
  try dsimp only [List.set_cons_zero,List.set_cons_succ]
  refine wpAnyH_take (i := 17) (oi := { dst := some 76, op := Op.fieldAddr 47 (Operand.tmp 75) 0, type := 0, pos := "law.go:96", after := #[{ on := 16, ground := Ground.data }, { on := 11, ground := Ground.guard }], guard := some (11, true) }) (v := ?vv17) rfl (by kernel_rfl) (by kernel_rfl) (by kernel_rfl) (fun _ _ _ h => h) (Or.inl ⟨by rfl, ?hy17⟩) (by assumption) ?rest17
  case hy17=>(intro w hSw;(try dsimp only at hSw);go_simp;try with_reducible rfl)
  try simp only [Act.put,List.setIfInBounds_toArray]
  try dsimp only [List.set_cons_zero,List.set_cons_succ]
  refine wpAnyH_take (i := 18) (oi := { dst := some 77, op := Op.load 41 (Operand.tmp 76), type := 41, pos := "law.go:96", after := #[{ on := 17, ground := Ground.data }, { on := 11, ground := Ground.guard }], guard := some (11, true) }) (v := ?vv18) rfl (by kernel_rfl) (by kernel_rfl) (by kernel_rfl) (fun _ _ _ h => h) (Or.inl ⟨by rfl, ?hy18⟩) (by assumption) ?rest18
  case hy18=>(intro w hSw;(try dsimp only at hSw);go_simp;try with_reducible rfl)
  try simp only [Act.put,List.setIfInBounds_toArray]
  try dsimp only [List.set_cons_zero,List.set_cons_succ]
  refine wpAnyH_take (i := 20) (oi := { dst := some 79, op := Op.move (Operand.tmp 1), type := 39, pos := "law.go:96", after := #[{ on := 11, ground := Ground.guard }], guard := some (11, true) }) (v := ?vv19) rfl (by kernel_rfl) (by kernel_rfl) (by kernel_rfl) (fun _ _ _ h => h) (Or.inl ⟨by rfl, ?hy19⟩) (by assumption) ?rest19
  case hy19=>(intro w hSw;(try dsimp only at hSw);go_simp;try with_reducible rfl)
  try simp only [Act.put,List.setIfInBounds_toArray]
  try dsimp only [List.set_cons_zero,List.set_cons_succ]
  refine wpAnyH_take (i := 21) (oi := { dst := some 80, op := Op.nilCheck (Operand.tmp 79), type := 0, pos := "law.go:96", after := #[{ on := 20, ground := Ground.data }, { on := 11, ground := Ground.guard }], guard := some (11, true) }) (v := ?vv20) rfl (by kernel_rfl) (by kernel_rfl) (by kernel_rfl) (fun _ _ _ h => h) (Or.inl ⟨by rfl, ?hy20⟩) (by assumption) ?rest20
  case hy20=>(intro w hSw;(try dsimp only at hSw);go_simp;try with_reducible rfl)
  try simp only [Act.put,List.setIfInBounds_toArray]
  try dsimp only [List.set_cons_zero,List.set_cons_succ]
  refine wpAnyH_take (i := 22) (oi := { dst := some 81, op := Op.fieldAddr 59 (Operand.tmp 80) 0, type := 0, pos := "law.go:96", after := #[{ on := 21, ground := Ground.data }, { on := 11, ground := Ground.guard }], guard := some (11, true) }) (v := ?vv21) rfl (by kernel_rfl) (by kernel_rfl) (by kernel_rfl) (fun _ _ _ h => h) (Or.inl ⟨by rfl, ?hy21⟩) (by assumption) ?rest21
  case hy21=>(intro w hSw;(try dsimp only at hSw);go_simp;try with_reducible rfl)
  try simp only [Act.put,List.setIfInBounds_toArray]
  try dsimp only [List.set_cons_zero,List.set_cons_succ]
  refine wpAnyH_take (i := 23) (oi := { dst := some 82, op := Op.load 35 (Operand.tmp 81), type := 35, pos := "law.go:96", after := #[{ on := 22, ground := Ground.data }, { on := 11, ground := Ground.guard }], guard := some (11, true) }) (v := ?vv22) rfl (by kernel_rfl) (by kernel_rfl) (by kernel_rfl) (fun _ _ _ h => h) (Or.inl ⟨by rfl, ?hy22⟩) (by assumption) ?rest22
  case hy22=>(intro w hSw;(try dsimp only at hSw);go_simp;try with_reducible rfl)
  try simp only [Act.put,List.setIfInBounds_toArray]
  try dsimp only [List.set_cons_zero,List.set_cons_succ]
  as_aux_lemma =>
   refine wpAnyH_take (i := 24) (oi := { dst := some 83, op := Op.nilCheck (Operand.tmp 82), type := 0, pos := "law.go:96", after := #[{ on := 23, ground := Ground.data }, { on := 11, ground := Ground.guard }], guard := some (11, true) }) (v := ?vv23) rfl (by kernel_rfl) (by kernel_rfl) (by kernel_rfl) (fun _ _ _ h => h) (Or.inl ⟨by rfl, ?hy23⟩) (by assumption) ?rest23
   case hy23=>(intro w hSw;(try dsimp only at hSw);go_simp;try with_reducible rfl)
   try simp only [Act.put,List.setIfInBounds_toArray]
   try dsimp only [List.set_cons_zero,List.set_cons_succ]
   refine wpAnyH_take (i := 25) (oi := { dst := some 84, op := Op.fieldAddr 47 (Operand.tmp 83) 0, type := 0, pos := "law.go:96", after := #[{ on := 24, ground := Ground.data }, { on := 11, ground := Ground.guard }], guard := some (11, true) }) (v := ?vv24) rfl (by kernel_rfl) (by kernel_rfl) (by kernel_rfl) (fun _ _ _ h => h) (Or.inl ⟨by rfl, ?hy24⟩) (by assumption) ?rest24
   case hy24=>(intro w hSw;(try dsimp only at hSw);go_simp;try with_reducible rfl)
   try simp only [Act.put,List.setIfInBounds_toArray]
   try dsimp only [List.set_cons_zero,List.set_cons_succ]
   refine wpAnyH_take (i := 26) (oi := { dst := some 85, op := Op.load 41 (Operand.tmp 84), type := 41, pos := "law.go:96", after := #[{ on := 25, ground := Ground.data }, { on := 11, ground := Ground.guard }], guard := some (11, true) }) (v := ?vv25) rfl (by kernel_rfl) (by kernel_rfl) (by kernel_rfl) (fun _ _ _ h => h) (Or.inl ⟨by rfl, ?hy25⟩) (by assumption) ?rest25
   case hy25=>(intro w hSw;(try dsimp only at hSw);go_simp;try with_reducible rfl)
   try simp only [Act.put,List.setIfInBounds_toArray]
   try dsimp only [List.set_cons_zero,List.set_cons_succ]
   refine wpAnyH_ready (rs:=[19]) (by kernel_rfl) (by simp) ?_
   refine AllReadyH.cons (o := { dst := some 78, op := Op.call { callee := Callee.value (Operand.func 35), args := #[Operand.tmp 77], argTypes := #[41] }, type := 2, pos := "law.go:96", after := #[{ on := 18, ground := Ground.data }, { on := 11, ground := Ground.chain }, { on := 11, ground := Ground.guard }], guard := some (11, true) }) rfl (fun K hK => ?step26) AllReadyH.nil
   go_simp
   go_at_call 35
   refine (HHA.out U.drew kd).mono ?_;rintro e w0 ⟨rfl,rfl⟩;dsimp only;refine hK.out _ _ ?hS26 (fun hHeld2=>?rest26)
   case hS26=>(try dsimp only);(first | exact HALL.out w5 k5 | exact HALL.out w4 k4 | exact HALL.out w3 k3 | exact HALL.out w2 k2 | exact HALL.out w1 k1 | exact HALL.out U.drew kd | exact HALL.out U K2.out)
   clear hK K hHeld
   try simp only [Act.put,List.setIfInBounds_toArray]
   try dsimp only [List.set_cons_zero,List.set_cons_succ]
   have hHeld:=hHeld2;clear hHeld2;refine wpAnyH_ready (rs:=[27]) (by kernel_rfl) (by simp) ?_
   refine AllReadyH.cons (o := { dst := some 86, op := Op.call { callee := Callee.value (Operand.func 35), args := #[Operand.tmp 85], argTypes := #[41] }, type := 2, pos := "law.go:96", after := #[{ on := 26, ground := Ground.data }, { on := 19, ground := Ground.chain }, { on := 11, ground := Ground.guard }], guard := some (11, true) }) rfl (fun K hK => ?step27) AllReadyH.nil
   go_simp
   go_at_call 35
   refine (HHB.out U.drew kd).mono ?_;rintro e w0 ⟨rfl,rfl⟩;dsimp only;refine hK.out _ _ ?hS27 (fun hHeld2=>?rest27)
   case hS27=>(try dsimp only);(first | exact HALL.out w5 k5 | exact HALL.out w4 k4 | exact HALL.out w3 k3 | exact HALL.out w2 k2 | exact HALL.out w1 k1 | exact HALL.out U.drew kd | exact HALL.out U K2.out)
   clear hK K hHeld
   try simp only [Act.put,List.setIfInBounds_toArray]
   try dsimp only [List.set_cons_zero,List.set_cons_succ]
   have hHeld:=hHeld2;clear hHeld2
   refine wpAnyH_take (i := 28) (oi := { dst := some 87, op := Op.binOp BinOp.eql 2 (Operand.tmp 78) (Operand.tmp 86) 2, type := 4, pos := "law.go:96", after := #[{ on := 19, ground := Ground.data }, { on := 27, ground := Ground.data }, { on := 11, ground := Ground.guard }], guard := some (11, true) }) (v := ?vv28) rfl (by kernel_rfl) (by kernel_rfl) (by kernel_rfl) (fun _ _ _ h => h) (Or.inl ⟨by rfl, ?hy28⟩) (by assumption) ?rest28
   case hy28=>(intro w hSw;(try dsimp only at hSw);go_simp;try with_reducible rfl)
   try simp only [Act.put,List.setIfInBounds_toArray]
   try dsimp only [List.set_cons_zero,List.set_cons_succ]
   refine wpAnyH_take (i := 29) (oi := { dst := some 88, op := Op.pick (Operand.tmp 70) (Operand.tmp 87) (Operand.const (Value.bool false)), type := 4, pos := "law.go:96", after := #[{ on := 11, ground := Ground.data }, { on := 28, ground := Ground.data }], guard := none }) (v := ?vv29) rfl (by kernel_rfl) (by kernel_rfl) (by kernel_rfl) (fun _ _ _ h => h) (Or.inl ⟨by rfl, ?hy29⟩) (by assumption) ?rest29
   case hy29=>(intro w hSw;(try dsimp only at hSw);go_simp;try with_reducible rfl)
   try simp only [Act.put,List.setIfInBounds_toArray]
   try dsimp only [List.set_cons_zero,List.set_cons_succ]
   refine wpAnyH_take (i := 30) (oi := { dst := some 89, op := Op.move (Operand.tmp 88), type := 4, pos := "law.go:96", after := #[{ on := 29, ground := Ground.data }, { on := 27, ground := Ground.chain }], guard := none }) (v := ?vv30) rfl (by kernel_rfl) (by kernel_rfl) (by kernel_rfl) (fun _ _ _ h => h) (Or.inl ⟨by rfl, ?hy30⟩) (by assumption) ?rest30
   case hy30=>(intro w hSw;(try dsimp only at hSw);go_simp;try with_reducible rfl)
   try simp only [Act.put,List.setIfInBounds_toArray]
   try dsimp only [List.set_cons_zero,List.set_cons_succ]
   refine wpAnyH_take (i := 31) (oi := { dst := some 90, op := Op.move (Operand.tmp 0), type := 39, pos := "law.go:96", after := #[{ on := 30, ground := Ground.guard }], guard := some (30, true) }) (v := ?vv31) rfl (by kernel_rfl) (by kernel_rfl) (by kernel_rfl) (fun _ _ _ h => h) (Or.inl ⟨by rfl, ?hy31⟩) (by assumption) ?rest31
   case hy31=>(intro w hSw;(try dsimp only at hSw);go_simp;try with_reducible rfl)
   try simp only [Act.put,List.setIfInBounds_toArray]
   try dsimp only [List.set_cons_zero,List.set_cons_succ]
   refine wpAnyH_take (i := 32) (oi := { dst := some 91, op := Op.nilCheck (Operand.tmp 90), type := 0, pos := "law.go:96", after := #[{ on := 31, ground := Ground.data }, { on := 30, ground := Ground.guard }], guard := some (30, true) }) (v := ?vv32) rfl (by kernel_rfl) (by kernel_rfl) (by kernel_rfl) (fun _ _ _ h => h) (Or.inl ⟨by rfl, ?hy32⟩) (by assumption) ?rest32
   case hy32=>(intro w hSw;(try dsimp only at hSw);go_simp;try with_reducible rfl)
   try simp only [Act.put,List.setIfInBounds_toArray]
   try dsimp only [List.set_cons_zero,List.set_cons_succ]
   refine wpAnyH_take (i := 33) (oi := { dst := some 92, op := Op.fieldAddr 59 (Operand.tmp 91) 0, type := 0, pos := "law.go:96", after := #[{ on := 32, ground := Ground.data }, { on := 30, ground := Ground.guard }], guard := some (30, true) }) (v := ?vv33) rfl (by kernel_rfl) (by kernel_rfl) (by kernel_rfl) (fun _ _ _ h => h) (Or.inl ⟨by rfl, ?hy33⟩) (by assumption) ?rest33
   case hy33=>(intro w hSw;(try dsimp only at hSw);go_simp;try with_reducible rfl)
   try simp only [Act.put,List.setIfInBounds_toArray]
   try dsimp only [List.set_cons_zero,List.set_cons_succ]
   refine wpAnyH_take (i := 34) (oi := { dst := some 93, op := Op.load 35 (Operand.tmp 92), type := 35, pos := "law.go:96", after := #[{ on := 33, ground := Ground.data }, { on := 30, ground := Ground.guard }], guard := some (30, true) }) (v := ?vv34) rfl (by kernel_rfl) (by kernel_rfl) (by kernel_rfl) (fun _ _ _ h => h) (Or.inl ⟨by rfl, ?hy34⟩) (by assumption) ?rest34
   case hy34=>(intro w hSw;(try dsimp only at hSw);go_simp;try with_reducible rfl)
   try simp only [Act.put,List.setIfInBounds_toArray]
   try dsimp only [List.set_cons_zero,List.set_cons_succ]
   as_aux_lemma =>
    refine wpAnyH_take (i := 35) (oi := { dst := some 94, op := Op.nilCheck (Operand.tmp 93), type := 0, pos := "law.go:96", after := #[{ on := 34, ground := Ground.data }, { on := 30, ground := Ground.guard }], guard := some (30, true) }) (v := ?vv35) rfl (by kernel_rfl) (by kernel_rfl) (by kernel_rfl) (fun _ _ _ h => h) (Or.inl ⟨by rfl, ?hy35⟩) (by assumption) ?rest35
    case hy35=>(intro w hSw;(try dsimp only at hSw);go_simp;try with_reducible rfl)
    try simp only [Act.put,List.setIfInBounds_toArray]
    try dsimp only [List.set_cons_zero,List.set_cons_succ]
    refine wpAnyH_take (i := 36) (oi := { dst := some 95, op := Op.fieldAddr 47 (Operand.tmp 94) 1, type := 0, pos := "law.go:96", after := #[{ on := 35, ground := Ground.data }, { on := 30, ground := Ground.guard }], guard := some (30, true) }) (v := ?vv36) rfl (by kernel_rfl) (by kernel_rfl) (by kernel_rfl) (fun _ _ _ h => h) (Or.inl ⟨by rfl, ?hy36⟩) (by assumption) ?rest36
    case hy36=>(intro w hSw;(try dsimp only at hSw);go_simp;try with_reducible rfl)
    try simp only [Act.put,List.setIfInBounds_toArray]
    try dsimp only [List.set_cons_zero,List.set_cons_succ]
    refine wpAnyH_take (i := 37) (oi := { dst := some 96, op := Op.load 42 (Operand.tmp 95), type := 42, pos := "law.go:96", after := #[{ on := 36, ground := Ground.data }, { on := 30, ground := Ground.guard }], guard := some (30, true) }) (v := ?vv37) rfl (by kernel_rfl) (by kernel_rfl) (by kernel_rfl) (fun _ _ _ h => h) (Or.inl ⟨by rfl, ?hy37⟩) (by assumption) ?rest37
    case hy37=>(intro w hSw;(try dsimp only at hSw);go_simp;try with_reducible rfl)
    try simp only [Act.put,List.setIfInBounds_toArray]
    try dsimp only [List.set_cons_zero,List.set_cons_succ]
    refine wpAnyH_take (i := 39) (oi := { dst := some 98, op := Op.move (Operand.tmp 1), type := 39, pos := "law.go:96", after := #[{ on := 30, ground := Ground.guard }], guard := some (30, true) }) (v := ?vv38) rfl (by kernel_rfl) (by kernel_rfl) (by kernel_rfl) (fun _ _ _ h => h) (Or.inl ⟨by rfl, ?hy38⟩) (by assumption) ?rest38
    case hy38=>(intro w hSw;(try dsimp only at hSw);go_simp;try with_reducible rfl)
    try simp only [Act.put,List.setIfInBounds_toArray]
    try dsimp only [List.set_cons_zero,List.set_cons_succ]
    refine wpAnyH_take (i := 40) (oi := { dst := some 99, op := Op.nilCheck (Operand.tmp 98), type := 0, pos := "law.go:96", after := #[{ on := 39, ground := Ground.data }, { on := 30, ground := Ground.guard }], guard := some (30, true) }) (v := ?vv39) rfl (by kernel_rfl) (by kernel_rfl) (by kernel_rfl) (fun _ _ _ h => h) (Or.inl ⟨by rfl, ?hy39⟩) (by assumption) ?rest39
    case hy39=>(intro w hSw;(try dsimp only at hSw);go_simp;try with_reducible rfl)
    try simp only [Act.put,List.setIfInBounds_toArray]
    try dsimp only [List.set_cons_zero,List.set_cons_succ]
    refine wpAnyH_take (i := 41) (oi := { dst := some 100, op := Op.fieldAddr 59 (Operand.tmp 99) 0, type := 0, pos := "law.go:96", after := #[{ on := 40, ground := Ground.data }, { on := 30, ground := Ground.guard }], guard := some (30, true) }) (v := ?vv40) rfl (by kernel_rfl) (by kernel_rfl) (by kernel_rfl) (fun _ _ _ h => h) (Or.inl ⟨by rfl, ?hy40⟩) (by assumption) ?rest40
    case hy40=>(intro w hSw;(try dsimp only at hSw);go_simp;try with_reducible rfl)
    try simp only [Act.put,List.setIfInBounds_toArray]
    try dsimp only [List.set_cons_zero,List.set_cons_succ]
    refine wpAnyH_take (i := 42) (oi := { dst := some 101, op := Op.load 35 (Operand.tmp 100), type := 35, pos := "law.go:96", after := #[{ on := 41, ground := Ground.data }, { on := 30, ground := Ground.guard }], guard := some (30, true) }) (v := ?vv41) rfl (by kernel_rfl) (by kernel_rfl) (by kernel_rfl) (fun _ _ _ h => h) (Or.inl ⟨by rfl, ?hy41⟩) (by assumption) ?rest41
    case hy41=>(intro w hSw;(try dsimp only at hSw);go_simp;try with_reducible rfl)
    try simp only [Act.put,List.setIfInBounds_toArray]
    try dsimp only [List.set_cons_zero,List.set_cons_succ]
    refine wpAnyH_take (i := 43) (oi := { dst := some 102, op := Op.nilCheck (Operand.tmp 101), type := 0, pos := "law.go:96", after := #[{ on := 42, ground := Ground.data }, { on := 30, ground := Ground.guard }], guard := some (30, true) }) (v := ?vv42) rfl (by kernel_rfl) (by kernel_rfl) (by kernel_rfl) (fun _ _ _ h => h) (Or.inl ⟨by rfl, ?hy42⟩) (by assumption) ?rest42
    case hy42=>(intro w hSw;(try dsimp only at hSw);go_simp;try with_reducible rfl)
    try simp only [Act.put,List.setIfInBounds_toArray]
    try dsimp only [List.set_cons_zero,List.set_cons_succ]
    refine wpAnyH_take (i := 44) (oi := { dst := some 103, op := Op.fieldAddr 47 (Operand.tmp 102) 1, type := 0, pos := "law.go:96", after := #[{ on := 43, ground := Ground.data }, { on := 30, ground := Ground.guard }], guard := some (30, true) }) (v := ?vv43) rfl (by kernel_rfl) (by kernel_rfl) (by kernel_rfl) (fun _ _ _ h => h) (Or.inl ⟨by rfl, ?hy43⟩) (by assumption) ?rest43
    case hy43=>(intro w hSw;(try dsimp only at hSw);go_simp;try with_reducible rfl)
    try simp only [Act.put,List.setIfInBounds_toArray]
    try dsimp only [List.set_cons_zero,List.set_cons_succ]
    refine wpAnyH_take (i := 45) (oi := { dst := some 104, op := Op.load 42 (Operand.tmp 103), type := 42, pos := "law.go:96", after := #[{ on := 44, ground := Ground.data }, { on := 30, ground := Ground.guard }], guard := some (30, true) }) (v := ?vv44) rfl (by kernel_rfl) (by kernel_rfl) (by kernel_rfl) (fun _ _ _ h => h) (Or.inl ⟨by rfl, ?hy44⟩) (by assumption) ?rest44
    case hy44=>(intro w hSw;(try dsimp only at hSw);go_simp;try with_reducible rfl)
    try simp only [Act.put,List.setIfInBounds_toArray]
    try dsimp only [List.set_cons_zero,List.set_cons_succ]
    refine wpAnyH_ready (rs:=[38]) (by kernel_rfl) (by simp) ?_
    refine AllReadyH.cons (o := { dst := some 97, op := Op.call { callee := Callee.value (Operand.func 20), args := #[Operand.tmp 96], argTypes := #[42] }, type := 22, pos := "law.go:96", after := #[{ on := 37, ground := Ground.data }, { on := 30, ground := Ground.chain }, { on := 30, ground := Ground.guard }], guard := some (30, true) }) rfl (fun K hK => ?step45) AllReadyH.nil
    go_simp
    go_at_call 20
    refine (HAA.out U.drew kd).mono ?_;rintro e w1 ⟨sa,sc,rfl,oa1,k1'⟩;dsimp only;have k1:=kd.trans k1';refine hK.out _ _ ?hS45 (fun hHeld2=>?rest45)
    case hS45=>(try dsimp only);(first | exact HALL.out w5 k5 | exact HALL.out w4 k4 | exact HALL.out w3 k3 | exact HALL.out w2 k2 | exact HALL.out w1 k1 | exact HALL.out U.drew kd | exact HALL.out U K2.out)
    clear hK K hHeld
    try simp only [Act.put,List.setIfInBounds_toArray]
    try dsimp only [List.set_cons_zero,List.set_cons_succ]
    have hHeld:=hHeld2;clear hHeld2;refine wpAnyH_ready (rs:=[46]) (by kernel_rfl) (by simp) ?_
    refine AllReadyH.cons (o := { dst := some 105, op := Op.call { callee := Callee.value (Operand.func 20), args := #[Operand.tmp 104], argTypes := #[42] }, type := 22, pos := "law.go:96", after := #[{ on := 45, ground := Ground.data }, { on := 38, ground := Ground.chain }, { on := 30, ground := Ground.guard }], guard := some (30, true) }) rfl (fun K hK => ?step46) AllReadyH.nil
    go_simp
    go_at_call 20
    have kk:=k1;refine (HAB.out w1 kk).mono ?_;rintro e w2 ⟨sb,sd,rfl,ob2,k2'⟩;dsimp only;have k2:=k1.trans k2';refine hK.out _ _ ?hS46 (fun hHeld2=>?rest46)
    case hS46=>(try dsimp only);(first | exact HALL.out w5 k5 | exact HALL.out w4 k4 | exact HALL.out w3 k3 | exact HALL.out w2 k2 | exact HALL.out w1 k1 | exact HALL.out U.drew kd | exact HALL.out U K2.out)
    clear hK K hHeld
    try simp only [Act.put,List.setIfInBounds_toArray]
    try dsimp only [List.set_cons_zero,List.set_cons_succ]
    have hHeld:=hHeld2;clear hHeld2
    as_aux_lemma =>
     refine wpAnyH_ready (rs:=[47]) (by kernel_rfl) (by simp) ?_
     refine AllReadyH.cons (o := { dst := some 106, op := Op.call { callee := Callee.value (Operand.func 19), args := #[Operand.tmp 97, Operand.tmp 105], argTypes := #[22, 22] }, type := 4, pos := "law.go:96", after := #[{ on := 38, ground := Ground.data }, { on := 46, ground := Ground.data }, { on := 46, ground := Ground.chain }, { on := 30, ground := Ground.guard }], guard := some (30, true) }) rfl (fun K hK => ?step47) AllReadyH.nil
     go_simp
     go_at_call 19
     refine (eq_rows w2 sa sb sc sd L (by omega) (oa1.keeps k2' (fun _ _=>id)) ob2).mono ?_
     rintro e w3 ⟨rfl,k3'⟩;dsimp only;have k3:=k2.trans k3';refine hK.out _ _ ?hS47 (fun hHeld2=>?rest47)
     case hS47=>(try dsimp only);(first | exact HALL.out w5 k5 | exact HALL.out w4 k4 | exact HALL.out w3 k3 | exact HALL.out w2 k2 | exact HALL.out w1 k1 | exact HALL.out U.drew kd | exact HALL.out U K2.out)
     clear hK K hHeld
     try simp only [Act.put,List.setIfInBounds_toArray]
     try dsimp only [List.set_cons_zero,List.set_cons_succ]
     have hHeld:=hHeld2;clear hHeld2
     refine wpAnyH_take (i := 48) (oi := { dst := some 107, op := Op.pick (Operand.tmp 89) (Operand.tmp 106) (Operand.const (Value.bool false)), type := 4, pos := "law.go:96", after := #[{ on := 30, ground := Ground.data }, { on := 47, ground := Ground.data }], guard := none }) (v := ?vv48) rfl (by kernel_rfl) (by kernel_rfl) (by kernel_rfl) (fun _ _ _ h => h) (Or.inl ⟨by rfl, ?hy48⟩) (by assumption) ?rest48
     case hy48=>(intro w hSw;(try dsimp only at hSw);go_simp;try with_reducible rfl)
     try simp only [Act.put,List.setIfInBounds_toArray]
     try dsimp only [List.set_cons_zero,List.set_cons_succ]
     refine wpAnyH_take (i := 49) (oi := { dst := some 108, op := Op.move (Operand.tmp 107), type := 4, pos := "law.go:96", after := #[{ on := 48, ground := Ground.data }, { on := 47, ground := Ground.chain }], guard := none }) (v := ?vv49) rfl (by kernel_rfl) (by kernel_rfl) (by kernel_rfl) (fun _ _ _ h => h) (Or.inl ⟨by rfl, ?hy49⟩) (by assumption) ?rest49
     case hy49=>(intro w hSw;(try dsimp only at hSw);go_simp;try with_reducible rfl)
     try simp only [Act.put,List.setIfInBounds_toArray]
     try dsimp only [List.set_cons_zero,List.set_cons_succ]
     refine wpAnyH_take (i := 50) (oi := { dst := some 109, op := Op.move (Operand.tmp 0), type := 39, pos := "law.go:96", after := #[{ on := 49, ground := Ground.guard }], guard := some (49, true) }) (v := ?vv50) rfl (by kernel_rfl) (by kernel_rfl) (by kernel_rfl) (fun _ _ _ h => h) (Or.inl ⟨by rfl, ?hy50⟩) (by assumption) ?rest50
     case hy50=>(intro w hSw;(try dsimp only at hSw);go_simp;try with_reducible rfl)
     try simp only [Act.put,List.setIfInBounds_toArray]
     try dsimp only [List.set_cons_zero,List.set_cons_succ]
     refine wpAnyH_take (i := 51) (oi := { dst := some 110, op := Op.nilCheck (Operand.tmp 109), type := 0, pos := "law.go:96", after := #[{ on := 50, ground := Ground.data }, { on := 49, ground := Ground.guard }], guard := some (49, true) }) (v := ?vv51) rfl (by kernel_rfl) (by kernel_rfl) (by kernel_rfl) (fun _ _ _ h => h) (Or.inl ⟨by rfl, ?hy51⟩) (by assumption) ?rest51
     case hy51=>(intro w hSw;(try dsimp only at hSw);go_simp;try with_reducible rfl)
     try simp only [Act.put,List.setIfInBounds_toArray]
     try dsimp only [List.set_cons_zero,List.set_cons_succ]
     refine wpAnyH_take (i := 52) (oi := { dst := some 111, op := Op.fieldAddr 59 (Operand.tmp 110) 4, type := 0, pos := "law.go:96", after := #[{ on := 51, ground := Ground.data }, { on := 49, ground := Ground.guard }], guard := some (49, true) }) (v := ?vv52) rfl (by kernel_rfl) (by kernel_rfl) (by kernel_rfl) (fun _ _ _ h => h) (Or.inl ⟨by rfl, ?hy52⟩) (by assumption) ?rest52
     case hy52=>(intro w hSw;(try dsimp only at hSw);go_simp;try with_reducible rfl)
     try simp only [Act.put,List.setIfInBounds_toArray]
     try dsimp only [List.set_cons_zero,List.set_cons_succ]
     refine wpAnyH_take (i := 53) (oi := { dst := some 112, op := Op.load 4 (Operand.tmp 111), type := 4, pos := "law.go:96", after := #[{ on := 52, ground := Ground.data }, { on := 49, ground := Ground.guard }], guard := some (49, true) }) (v := ?vv53) rfl (by kernel_rfl) (by kernel_rfl) (by kernel_rfl) (fun _ _ _ h => h) (Or.inl ⟨by rfl, ?hy53⟩) (by assumption) ?rest53
     case hy53=>(intro w hSw;(try dsimp only at hSw);go_simp;try with_reducible rfl)
     try simp only [Act.put,List.setIfInBounds_toArray]
     try dsimp only [List.set_cons_zero,List.set_cons_succ]
     refine wpAnyH_take (i := 54) (oi := { dst := some 113, op := Op.move (Operand.tmp 1), type := 39, pos := "law.go:96", after := #[{ on := 49, ground := Ground.guard }], guard := some (49, true) }) (v := ?vv54) rfl (by kernel_rfl) (by kernel_rfl) (by kernel_rfl) (fun _ _ _ h => h) (Or.inl ⟨by rfl, ?hy54⟩) (by assumption) ?rest54
     case hy54=>(intro w hSw;(try dsimp only at hSw);go_simp;try with_reducible rfl)
     try simp only [Act.put,List.setIfInBounds_toArray]
     try dsimp only [List.set_cons_zero,List.set_cons_succ]
     refine wpAnyH_take (i := 55) (oi := { dst := some 114, op := Op.nilCheck (Operand.tmp 113), type := 0, pos := "law.go:96", after := #[{ on := 54, ground := Ground.data }, { on := 49, ground := Ground.guard }], guard := some (49, true) }) (v := ?vv55) rfl (by kernel_rfl) (by kernel_rfl) (by kernel_rfl) (fun _ _ _ h => h) (Or.inl ⟨by rfl, ?hy55⟩) (by assumption) ?rest55
     case hy55=>(intro w hSw;(try dsimp only at hSw);go_simp;try with_reducible rfl)
     try simp only [Act.put,List.setIfInBounds_toArray]
     try dsimp only [List.set_cons_zero,List.set_cons_succ]
     refine wpAnyH_take (i := 56) (oi := { dst := some 115, op := Op.fieldAddr 59 (Operand.tmp 114) 4, type := 0, pos := "law.go:96", after := #[{ on := 55, ground := Ground.data }, { on := 49, ground := Ground.guard }], guard := some (49, true) }) (v := ?vv56) rfl (by kernel_rfl) (by kernel_rfl) (by kernel_rfl) (fun _ _ _ h => h) (Or.inl ⟨by rfl, ?hy56⟩) (by assumption) ?rest56
     case hy56=>(intro w hSw;(try dsimp only at hSw);go_simp;try with_reducible rfl)
     try simp only [Act.put,List.setIfInBounds_toArray]
     try dsimp only [List.set_cons_zero,List.set_cons_succ]
     refine wpAnyH_take (i := 57) (oi := { dst := some 116, op := Op.load 4 (Operand.tmp 115), type := 4, pos := "law.go:96", after := #[{ on := 56, ground := Ground.data }, { on := 49, ground := Ground.guard }], guard := some (49, true) }) (v := ?vv57) rfl (by kernel_rfl) (by kernel_rfl) (by kernel_rfl) (fun _ _ _ h => h) (Or.inl ⟨by rfl, ?hy57⟩) (by assumption) ?rest57
     case hy57=>(intro w hSw;(try dsimp only at hSw);go_simp;try with_reducible rfl)
     try simp only [Act.put,List.setIfInBounds_toArray]
     try dsimp only [List.set_cons_zero,List.set_cons_succ]
     refine wpAnyH_take (i := 58) (oi := { dst := some 117, op := Op.binOp BinOp.eql 4 (Operand.tmp 112) (Operand.tmp 116) 4, type := 4, pos := "law.go:96", after := #[{ on := 53, ground := Ground.data }, { on := 57, ground := Ground.data }, { on := 49, ground := Ground.guard }], guard := some (49, true) }) (v := ?vv58) rfl (by kernel_rfl) (by kernel_rfl) (by kernel_rfl) (fun _ _ _ h => h) (Or.inl ⟨by rfl, ?hy58⟩) (by assumption) ?rest58
     case hy58=>(intro w hSw;(try dsimp only at hSw);go_simp;try with_reducible rfl)
     try simp only [Act.put,List.setIfInBounds_toArray]
     try dsimp only [List.set_cons_zero,List.set_cons_succ]
     as_aux_lemma =>
      refine wpAnyH_take (i := 59) (oi := { dst := some 118, op := Op.pick (Operand.tmp 108) (Operand.tmp 117) (Operand.const (Value.bool false)), type := 4, pos := "law.go:96", after := #[{ on := 49, ground := Ground.data }, { on := 58, ground := Ground.data }], guard := none }) (v := ?vv59) rfl (by kernel_rfl) (by kernel_rfl) (by kernel_rfl) (fun _ _ _ h => h) (Or.inl ⟨by rfl, ?hy59⟩) (by assumption) ?rest59
      case hy59=>(intro w hSw;(try dsimp only at hSw);go_simp;try with_reducible rfl)
      try simp only [Act.put,List.setIfInBounds_toArray]
      try dsimp only [List.set_cons_zero,List.set_cons_succ]
      refine wpAnyH_take (i := 60) (oi := { dst := some 119, op := Op.move (Operand.tmp 118), type := 4, pos := "law.go:96", after := #[{ on := 59, ground := Ground.data }, { on := 49, ground := Ground.chain }], guard := none }) (v := ?vv60) rfl (by kernel_rfl) (by kernel_rfl) (by kernel_rfl) (fun _ _ _ h => h) (Or.inl ⟨by rfl, ?hy60⟩) (by assumption) ?rest60
      case hy60=>(intro w hSw;(try dsimp only at hSw);go_simp;try with_reducible rfl)
      try simp only [Act.put,List.setIfInBounds_toArray]
      try dsimp only [List.set_cons_zero,List.set_cons_succ]
      refine wpAnyH_take (i := 61) (oi := { dst := some 120, op := Op.move (Operand.tmp 0), type := 39, pos := "law.go:96", after := #[{ on := 60, ground := Ground.guard }], guard := some (60, true) }) (v := ?vv61) rfl (by kernel_rfl) (by kernel_rfl) (by kernel_rfl) (fun _ _ _ h => h) (Or.inl ⟨by rfl, ?hy61⟩) (by assumption) ?rest61
      case hy61=>(intro w hSw;(try dsimp only at hSw);go_simp;try with_reducible rfl)
      try simp only [Act.put,List.setIfInBounds_toArray]
      try dsimp only [List.set_cons_zero,List.set_cons_succ]
      refine wpAnyH_take (i := 62) (oi := { dst := some 121, op := Op.nilCheck (Operand.tmp 120), type := 0, pos := "law.go:96", after := #[{ on := 61, ground := Ground.data }, { on := 60, ground := Ground.guard }], guard := some (60, true) }) (v := ?vv62) rfl (by kernel_rfl) (by kernel_rfl) (by kernel_rfl) (fun _ _ _ h => h) (Or.inl ⟨by rfl, ?hy62⟩) (by assumption) ?rest62
      case hy62=>(intro w hSw;(try dsimp only at hSw);go_simp;try with_reducible rfl)
      try simp only [Act.put,List.setIfInBounds_toArray]
      try dsimp only [List.set_cons_zero,List.set_cons_succ]
      refine wpAnyH_take (i := 63) (oi := { dst := some 122, op := Op.fieldAddr 59 (Operand.tmp 121) 0, type := 0, pos := "law.go:96", after := #[{ on := 62, ground := Ground.data }, { on := 60, ground := Ground.guard }], guard := some (60, true) }) (v := ?vv63) rfl (by kernel_rfl) (by kernel_rfl) (by kernel_rfl) (fun _ _ _ h => h) (Or.inl ⟨by rfl, ?hy63⟩) (by assumption) ?rest63
      case hy63=>(intro w hSw;(try dsimp only at hSw);go_simp;try with_reducible rfl)
      try simp only [Act.put,List.setIfInBounds_toArray]
      try dsimp only [List.set_cons_zero,List.set_cons_succ]
      refine wpAnyH_take (i := 64) (oi := { dst := some 123, op := Op.load 35 (Operand.tmp 122), type := 35, pos := "law.go:96", after := #[{ on := 63, ground := Ground.data }, { on := 60, ground := Ground.guard }], guard := some (60, true) }) (v := ?vv64) rfl (by kernel_rfl) (by kernel_rfl) (by kernel_rfl) (fun _ _ _ h => h) (Or.inl ⟨by rfl, ?hy64⟩) (by assumption) ?rest64
      case hy64=>(intro w hSw;(try dsimp only at hSw);go_simp;try with_reducible rfl)
      try simp only [Act.put,List.setIfInBounds_toArray]
      try dsimp only [List.set_cons_zero,List.set_cons_succ]
      refine wpAnyH_take (i := 65) (oi := { dst := some 124, op := Op.nilCheck (Operand.tmp 123), type := 0, pos := "law.go:96", after := #[{ on := 64, ground := Ground.data }, { on := 60, ground := Ground.guard }], guard := some (60, true) }) (v := ?vv65) rfl (by kernel_rfl) (by kernel_rfl) (by kernel_rfl) (fun _ _ _ h => h) (Or.inl ⟨by rfl, ?hy65⟩) (by assumption) ?rest65
      case hy65=>(intro w hSw;(try dsimp only at hSw);go_simp;try with_reducible rfl)
      try simp only [Act.put,List.setIfInBounds_toArray]
      try dsimp only [List.set_cons_zero,List.set_cons_succ]
      refine wpAnyH_take (i := 66) (oi := { dst := some 125, op := Op.fieldAddr 47 (Operand.tmp 124) 11, type := 0, pos := "law.go:96", after := #[{ on := 65, ground := Ground.data }, { on := 60, ground := Ground.guard }], guard := some (60, true) }) (v := ?vv66) rfl (by kernel_rfl) (by kernel_rfl) (by kernel_rfl) (fun _ _ _ h => h) (Or.inl ⟨by rfl, ?hy66⟩) (by assumption) ?rest66
      case hy66=>(intro w hSw;(try dsimp only at hSw);go_simp;try with_reducible rfl)
      try simp only [Act.put,List.setIfInBounds_toArray]
      try dsimp only [List.set_cons_zero,List.set_cons_succ]
      refine wpAnyH_take (i := 67) (oi := { dst := some 126, op := Op.load 9 (Operand.tmp 125), type := 9, pos := "law.go:96", after := #[{ on := 66, ground := Ground.data }, { on := 60, ground := Ground.guard }], guard := some (60, true) }) (v := ?vv67) rfl (by kernel_rfl) (by kernel_rfl) (by kernel_rfl) (fun _ _ _ h => h) (Or.inl ⟨by rfl, ?hy67⟩) (by assumption) ?rest67
      case hy67=>(intro w hSw;(try dsimp only at hSw);go_simp;try with_reducible rfl)
      try simp only [Act.put,List.setIfInBounds_toArray]
      try dsimp only [List.set_cons_zero,List.set_cons_succ]
      refine wpAnyH_take (i := 68) (oi := { dst := some 127, op := Op.move (Operand.tmp 1), type := 39, pos := "law.go:96", after := #[{ on := 60, ground := Ground.guard }], guard := some (60, true) }) (v := ?vv68) rfl (by kernel_rfl) (by kernel_rfl) (by kernel_rfl) (fun _ _ _ h => h) (Or.inl ⟨by rfl, ?hy68⟩) (by assumption) ?rest68
      case hy68=>(intro w hSw;(try dsimp only at hSw);go_simp;try with_reducible rfl)
      try simp only [Act.put,List.setIfInBounds_toArray]
      try dsimp only [List.set_cons_zero,List.set_cons_succ]
      refine wpAnyH_take (i := 69) (oi := { dst := some 128, op := Op.nilCheck (Operand.tmp 127), type := 0, pos := "law.go:96", after := #[{ on := 68, ground := Ground.data }, { on := 60, ground := Ground.guard }], guard := some (60, true) }) (v := ?vv69) rfl (by kernel_rfl) (by kernel_rfl) (by kernel_rfl) (fun _ _ _ h => h) (Or.inl ⟨by rfl, ?hy69⟩) (by assumption) ?rest69
      case hy69=>(intro w hSw;(try dsimp only at hSw);go_simp;try with_reducible rfl)
      try simp only [Act.put,List.setIfInBounds_toArray]
      try dsimp only [List.set_cons_zero,List.set_cons_succ]
      refine wpAnyH_take (i := 70) (oi := { dst := some 129, op := Op.fieldAddr 59 (Operand.tmp 128) 0, type := 0, pos := "law.go:96", after := #[{ on := 69, ground := Ground.data }, { on := 60, ground := Ground.guard }], guard := some (60, true) }) (v := ?vv70) rfl (by kernel_rfl) (by kernel_rfl) (by kernel_rfl) (fun _ _ _ h => h) (Or.inl ⟨by rfl, ?hy70⟩) (by assumption) ?rest70
      case hy70=>(intro w hSw;(try dsimp only at hSw);go_simp;try with_reducible rfl)
      try simp only [Act.put,List.setIfInBounds_toArray]
      try dsimp only [List.set_cons_zero,List.set_cons_succ]
      as_aux_lemma =>
       refine wpAnyH_take (i := 71) (oi := { dst := some 130, op := Op.load 35 (Operand.tmp 129), type := 35, pos := "law.go:96", after := #[{ on := 70, ground := Ground.data }, { on := 60, ground := Ground.guard }], guard := some (60, true) }) (v := ?vv71) rfl (by kernel_rfl) (by kernel_rfl) (by kernel_rfl) (fun _ _ _ h => h) (Or.inl ⟨by rfl, ?hy71⟩) (by assumption) ?rest71
       case hy71=>(intro w hSw;(try dsimp only at hSw);go_simp;try with_reducible rfl)
       try simp only [Act.put,List.setIfInBounds_toArray]
       try dsimp only [List.set_cons_zero,List.set_cons_succ]
       refine wpAnyH_take (i := 72) (oi := { dst := some 131, op := Op.nilCheck (Operand.tmp 130), type := 0, pos := "law.go:96", after := #[{ on := 71, ground := Ground.data }, { on := 60, ground := Ground.guard }], guard := some (60, true) }) (v := ?vv72) rfl (by kernel_rfl) (by kernel_rfl) (by kernel_rfl) (fun _ _ _ h => h) (Or.inl ⟨by rfl, ?hy72⟩) (by assumption) ?rest72
       case hy72=>(intro w hSw;(try dsimp only at hSw);go_simp;try with_reducible rfl)
       try simp only [Act.put,List.setIfInBounds_toArray]
       try dsimp only [List.set_cons_zero,List.set_cons_succ]
       refine wpAnyH_take (i := 73) (oi := { dst := some 132, op := Op.fieldAddr 47 (Operand.tmp 131) 11, type := 0, pos := "law.go:96", after := #[{ on := 72, ground := Ground.data }, { on := 60, ground := Ground.guard }], guard := some (60, true) }) (v := ?vv73) rfl (by kernel_rfl) (by kernel_rfl) (by kernel_rfl) (fun _ _ _ h => h) (Or.inl ⟨by rfl, ?hy73⟩) (by assumption) ?rest73
       case hy73=>(intro w hSw;(try dsimp only at hSw);go_simp;try with_reducible rfl)
       try simp only [Act.put,List.setIfInBounds_toArray]
       try dsimp only [List.set_cons_zero,List.set_cons_succ]
       refine wpAnyH_take (i := 74) (oi := { dst := some 133, op := Op.load 9 (Operand.tmp 132), type := 9, pos := "law.go:96", after := #[{ on := 73, ground := Ground.data }, { on := 60, ground := Ground.guard }], guard := some (60, true) }) (v := ?vv74) rfl (by kernel_rfl) (by kernel_rfl) (by kernel_rfl) (fun _ _ _ h => h) (Or.inl ⟨by rfl, ?hy74⟩) (by assumption) ?rest74
       case hy74=>(intro w hSw;(try dsimp only at hSw);go_simp;try with_reducible rfl)
       try simp only [Act.put,List.setIfInBounds_toArray]
       try dsimp only [List.set_cons_zero,List.set_cons_succ]
       refine wpAnyH_take (i := 75) (oi := { dst := some 134, op := Op.binOp BinOp.eql 9 (Operand.tmp 126) (Operand.tmp 133) 9, type := 4, pos := "law.go:96", after := #[{ on := 67, ground := Ground.data }, { on := 74, ground := Ground.data }, { on := 60, ground := Ground.guard }], guard := some (60, true) }) (v := ?vv75) rfl (by kernel_rfl) (by kernel_rfl) (by kernel_rfl) (fun _ _ _ h => h) (Or.inl ⟨by rfl, ?hy75⟩) (by assumption) ?rest75
       case hy75=>(intro w hSw;(try dsimp only at hSw);go_simp;try with_reducible rfl)
       try simp only [Act.put,List.setIfInBounds_toArray]
       try dsimp only [List.set_cons_zero,List.set_cons_succ]
       refine wpAnyH_take (i := 76) (oi := { dst := some 135, op := Op.pick (Operand.tmp 119) (Operand.tmp 134) (Operand.const (Value.bool false)), type := 4, pos := "law.go:96", after := #[{ on := 60, ground := Ground.data }, { on := 75, ground := Ground.data }], guard := none }) (v := ?vv76) rfl (by kernel_rfl) (by kernel_rfl) (by kernel_rfl) (fun _ _ _ h => h) (Or.inl ⟨by rfl, ?hy76⟩) (by assumption) ?rest76
       case hy76=>(intro w hSw;(try dsimp only at hSw);go_simp;try with_reducible rfl)
       try simp only [Act.put,List.setIfInBounds_toArray]
       try dsimp only [List.set_cons_zero,List.set_cons_succ]
       refine wpAnyH_take (i := 77) (oi := { dst := some 136, op := Op.move (Operand.tmp 135), type := 4, pos := "law.go:96", after := #[{ on := 76, ground := Ground.data }, { on := 60, ground := Ground.chain }], guard := none }) (v := ?vv77) rfl (by kernel_rfl) (by kernel_rfl) (by kernel_rfl) (fun _ _ _ h => h) (Or.inl ⟨by rfl, ?hy77⟩) (by assumption) ?rest77
       case hy77=>(intro w hSw;(try dsimp only at hSw);go_simp;try with_reducible rfl)
       try simp only [Act.put,List.setIfInBounds_toArray]
       try dsimp only [List.set_cons_zero,List.set_cons_succ]
       refine wpAnyH_take (i := 78) (oi := { dst := some 137, op := Op.move (Operand.tmp 0), type := 39, pos := "law.go:96", after := #[{ on := 77, ground := Ground.guard }], guard := some (77, true) }) (v := ?vv78) rfl (by kernel_rfl) (by kernel_rfl) (by kernel_rfl) (fun _ _ _ h => h) (Or.inl ⟨by rfl, ?hy78⟩) (by assumption) ?rest78
       case hy78=>(intro w hSw;(try dsimp only at hSw);go_simp;try with_reducible rfl)
       try simp only [Act.put,List.setIfInBounds_toArray]
       try dsimp only [List.set_cons_zero,List.set_cons_succ]
       refine wpAnyH_take (i := 79) (oi := { dst := some 138, op := Op.nilCheck (Operand.tmp 137), type := 0, pos := "law.go:96", after := #[{ on := 78, ground := Ground.data }, { on := 77, ground := Ground.guard }], guard := some (77, true) }) (v := ?vv79) rfl (by kernel_rfl) (by kernel_rfl) (by kernel_rfl) (fun _ _ _ h => h) (Or.inl ⟨by rfl, ?hy79⟩) (by assumption) ?rest79
       case hy79=>(intro w hSw;(try dsimp only at hSw);go_simp;try with_reducible rfl)
       try simp only [Act.put,List.setIfInBounds_toArray]
       try dsimp only [List.set_cons_zero,List.set_cons_succ]
       refine wpAnyH_take (i := 80) (oi := { dst := some 139, op := Op.fieldAddr 59 (Operand.tmp 138) 1, type := 0, pos := "law.go:96", after := #[{ on := 79, ground := Ground.data }, { on := 77, ground := Ground.guard }], guard := some (77, true) }) (v := ?vv80) rfl (by kernel_rfl) (by kernel_rfl) (by kernel_rfl) (fun _ _ _ h => h) (Or.inl ⟨by rfl, ?hy80⟩) (by assumption) ?rest80
       case hy80=>(intro w hSw;(try dsimp only at hSw);go_simp;try with_reducible rfl)
       try simp only [Act.put,List.setIfInBounds_toArray]
       try dsimp only [List.set_cons_zero,List.set_cons_succ]
       refine wpAnyH_take (i := 81) (oi := { dst := some 140, op := Op.load 49 (Operand.tmp 139), type := 49, pos := "law.go:96", after := #[{ on := 80, ground := Ground.data }, { on := 77, ground := Ground.guard }], guard := some (77, true) }) (v := ?vv81) rfl (by kernel_rfl) (by kernel_rfl) (by kernel_rfl) (fun _ _ _ h => h) (Or.inl ⟨by rfl, ?hy81⟩) (by assumption) ?rest81
       case hy81=>(intro w hSw;(try dsimp only at hSw);go_simp;try with_reducible rfl)
       try simp only [Act.put,List.setIfInBounds_toArray]
       try dsimp only [List.set_cons_zero,List.set_cons_succ]
       refine wpAnyH_take (i := 83) (oi := { dst := some 142, op := Op.move (Operand.tmp 1), type := 39, pos := "law.go:96", after := #[{ on := 77, ground := Ground.guard }], guard := some (77, true) }) (v := ?vv82) rfl (by kernel_rfl) (by kernel_rfl) (by kernel_rfl) (fun _ _ _ h => h) (Or.inl ⟨by rfl, ?hy82⟩) (by assumption) ?rest82
       case hy82=>(intro w hSw;(try dsimp only at hSw);go_simp;try with_reducible rfl)
       try simp only [Act.put,List.setIfInBounds_toArray]
       try dsimp only [List.set_cons_zero,List.set_cons_succ]
       as_aux_lemma =>
        refine wpAnyH_take (i := 84) (oi := { dst := some 143, op := Op.nilCheck (Operand.tmp 142), type := 0, pos := "law.go:96", after := #[{ on := 83, ground := Ground.data }, { on := 77, ground := Ground.guard }], guard := some (77, true) }) (v := ?vv83) rfl (by kernel_rfl) (by kernel_rfl) (by kernel_rfl) (fun _ _ _ h => h) (Or.inl ⟨by rfl, ?hy83⟩) (by assumption) ?rest83
        case hy83=>(intro w hSw;(try dsimp only at hSw);go_simp;try with_reducible rfl)
        try simp only [Act.put,List.setIfInBounds_toArray]
        try dsimp only [List.set_cons_zero,List.set_cons_succ]
        refine wpAnyH_take (i := 85) (oi := { dst := some 144, op := Op.fieldAddr 59 (Operand.tmp 143) 1, type := 0, pos := "law.go:96", after := #[{ on := 84, ground := Ground.data }, { on := 77, ground := Ground.guard }], guard := some (77, true) }) (v := ?vv84) rfl (by kernel_rfl) (by kernel_rfl) (by kernel_rfl) (fun _ _ _ h => h) (Or.inl ⟨by rfl, ?hy84⟩) (by assumption) ?rest84
        case hy84=>(intro w hSw;(try dsimp only at hSw);go_simp;try with_reducible rfl)
        try simp only [Act.put,List.setIfInBounds_toArray]
        try dsimp only [List.set_cons_zero,List.set_cons_succ]
        refine wpAnyH_take (i := 86) (oi := { dst := some 145, op := Op.load 49 (Operand.tmp 144), type := 49, pos := "law.go:96", after := #[{ on := 85, ground := Ground.data }, { on := 77, ground := Ground.guard }], guard := some (77, true) }) (v := ?vv85) rfl (by kernel_rfl) (by kernel_rfl) (by kernel_rfl) (fun _ _ _ h => h) (Or.inl ⟨by rfl, ?hy85⟩) (by assumption) ?rest85
        case hy85=>(intro w hSw;(try dsimp only at hSw);go_simp;try with_reducible rfl)
        try simp only [Act.put,List.setIfInBounds_toArray]
        try dsimp only [List.set_cons_zero,List.set_cons_succ]
        refine wpAnyH_ready (rs:=[82]) (by kernel_rfl) (by simp) ?_
        refine AllReadyH.cons (o := { dst := some 141, op := Op.call { callee := Callee.value (Operand.func 27), args := #[Operand.tmp 140], argTypes := #[49] }, type := 9, pos := "law.go:96", after := #[{ on := 81, ground := Ground.data }, { on := 77, ground := Ground.chain }, { on := 77, ground := Ground.guard }], guard := some (77, true) }) rfl (fun K hK => ?step86) AllReadyH.nil
        go_simp
        go_at_call 27
        refine (HRA.out w3 k3).mono ?_;rintro e w4 ⟨rfl,k4'⟩;dsimp only;have k4:=k3.trans k4';refine hK.out _ _ ?hS86 (fun hHeld2=>?rest86)
        case hS86=>(try dsimp only);(first | exact HALL.out w5 k5 | exact HALL.out w4 k4 | exact HALL.out w3 k3 | exact HALL.out w2 k2 | exact HALL.out w1 k1 | exact HALL.out U.drew kd | exact HALL.out U K2.out)
        clear hK K hHeld
        try simp only [Act.put,List.setIfInBounds_toArray]
        try dsimp only [List.set_cons_zero,List.set_cons_succ]
        have hHeld:=hHeld2;clear hHeld2;refine wpAnyH_ready (rs:=[87]) (by kernel_rfl) (by simp) ?_
        refine AllReadyH.cons (o := { dst := some 146, op := Op.call { callee := Callee.value (Operand.func 27), args := #[Operand.tmp 145], argTypes := #[49] }, type := 9, pos := "law.go:96", after := #[{ on := 86, ground := Ground.data }, { on := 82, ground := Ground.chain }, { on := 77, ground := Ground.guard }], guard := some (77, true) }) rfl (fun K hK => ?step87) AllReadyH.nil
        go_simp
        go_at_call 27
        have kk:=k4;refine (HRB.out w4 kk).mono ?_;rintro e w5 ⟨rfl,k5'⟩;dsimp only;have k5:=k4.trans k5';refine hK.out _ _ ?hS87 (fun hHeld2=>?rest87)
        case hS87=>(try dsimp only);(first | exact HALL.out w5 k5 | exact HALL.out w4 k4 | exact HALL.out w3 k3 | exact HALL.out w2 k2 | exact HALL.out w1 k1 | exact HALL.out U.drew kd | exact HALL.out U K2.out)
        clear hK K hHeld
        try simp only [Act.put,List.setIfInBounds_toArray]
        try dsimp only [List.set_cons_zero,List.set_cons_succ]
        have hHeld:=hHeld2;clear hHeld2
        refine wpAnyH_take (i := 88) (oi := { dst := some 147, op := Op.binOp BinOp.eql 9 (Operand.tmp 141) (Operand.tmp 146) 9, type := 4, pos := "law.go:96", after := #[{ on := 82, ground := Ground.data }, { on := 87, ground := Ground.data }, { on := 77, ground := Ground.guard }], guard := some (77, true) }) (v := ?vv88) rfl (by kernel_rfl) (by kernel_rfl) (by kernel_rfl) (fun _ _ _ h => h) (Or.inl ⟨by rfl, ?hy88⟩) (by assumption) ?rest88
        case hy88=>(intro w hSw;(try dsimp only at hSw);go_simp;try with_reducible rfl)
        try simp only [Act.put,List.setIfInBounds_toArray]
        try dsimp only [List.set_cons_zero,List.set_cons_succ]
        refine wpAnyH_take (i := 89) (oi := { dst := some 148, op := Op.pick (Operand.tmp 136) (Operand.tmp 147) (Operand.const (Value.bool false)), type := 4, pos := "law.go:96", after := #[{ on := 77, ground := Ground.data }, { on := 88, ground := Ground.data }], guard := none }) (v := ?vv89) rfl (by kernel_rfl) (by kernel_rfl) (by kernel_rfl) (fun _ _ _ h => h) (Or.inl ⟨by rfl, ?hy89⟩) (by assumption) ?rest89
        case hy89=>(intro w hSw;(try dsimp only at hSw);go_simp;try with_reducible rfl)
        try simp only [Act.put,List.setIfInBounds_toArray]
        try dsimp only [List.set_cons_zero,List.set_cons_succ]
        refine wpAnyH_take (i := 90) (oi := { dst := some 4, op := Op.assign (Operand.tmp 148), type := 4, pos := "law.go:96", after := #[{ on := 89, ground := Ground.data }, { on := 87, ground := Ground.chain }, { on := 0, ground := Ground.phase }, { on := 1, ground := Ground.phase }, { on := 2, ground := Ground.phase }, { on := 3, ground := Ground.phase }, { on := 4, ground := Ground.phase }, { on := 5, ground := Ground.phase }, { on := 6, ground := Ground.phase }, { on := 7, ground := Ground.phase }, { on := 8, ground := Ground.phase }, { on := 9, ground := Ground.phase }, { on := 10, ground := Ground.phase }, { on := 11, ground := Ground.phase }, { on := 12, ground := Ground.phase }, { on := 13, ground := Ground.phase }, { on := 14, ground := Ground.phase }, { on := 15, ground := Ground.phase }, { on := 16, ground := Ground.phase }, { on := 17, ground := Ground.phase }, { on := 18, ground := Ground.phase }, { on := 19, ground := Ground.phase }, { on := 20, ground := Ground.phase }, { on := 21, ground := Ground.phase }, { on := 22, ground := Ground.phase }, { on := 23, ground := Ground.phase }, { on := 24, ground := Ground.phase }, { on := 25, ground := Ground.phase }, { on := 26, ground := Ground.phase }, { on := 27, ground := Ground.phase }, { on := 28, ground := Ground.phase }, { on := 29, ground := Ground.phase }, { on := 30, ground := Ground.phase }, { on := 31, ground := Ground.phase }, { on := 32, ground := Ground.phase }, { on := 33, ground := Ground.phase }, { on := 34, ground := Ground.phase }, { on := 35, ground := Ground.phase }, { on := 36, ground := Ground.phase }, { on := 37, ground := Ground.phase }, { on := 38, ground := Ground.phase }, { on := 39, ground := Ground.phase }, { on := 40, ground := Ground.phase }, { on := 41, ground := Ground.phase }, { on := 42, ground := Ground.phase }, { on := 43, ground := Ground.phase }, { on := 44, ground := Ground.phase }, { on := 45, ground := Ground.phase }, { on := 46, ground := Ground.phase }, { on := 47, ground := Ground.phase }, { on := 48, ground := Ground.phase }, { on := 49, ground := Ground.phase }, { on := 50, ground := Ground.phase }, { on := 51, ground := Ground.phase }, { on := 52, ground := Ground.phase }, { on := 53, ground := Ground.phase }, { on := 54, ground := Ground.phase }, { on := 55, ground := Ground.phase }, { on := 56, ground := Ground.phase }, { on := 57, ground := Ground.phase }, { on := 58, ground := Ground.phase }, { on := 59, ground := Ground.phase }, { on := 60, ground := Ground.phase }, { on := 61, ground := Ground.phase }, { on := 62, ground := Ground.phase }, { on := 63, ground := Ground.phase }, { on := 64, ground := Ground.phase }, { on := 65, ground := Ground.phase }, { on := 66, ground := Ground.phase }, { on := 67, ground := Ground.phase }, { on := 68, ground := Ground.phase }, { on := 69, ground := Ground.phase }, { on := 70, ground := Ground.phase }, { on := 71, ground := Ground.phase }, { on := 72, ground := Ground.phase }, { on := 73, ground := Ground.phase }, { on := 74, ground := Ground.phase }, { on := 75, ground := Ground.phase }, { on := 76, ground := Ground.phase }, { on := 77, ground := Ground.phase }, { on := 78, ground := Ground.phase }, { on := 79, ground := Ground.phase }, { on := 80, ground := Ground.phase }, { on := 81, ground := Ground.phase }, { on := 82, ground := Ground.phase }, { on := 83, ground := Ground.phase }, { on := 84, ground := Ground.phase }, { on := 85, ground := Ground.phase }, { on := 86, ground := Ground.phase }, { on := 87, ground := Ground.phase }, { on := 88, ground := Ground.phase }, { on := 89, ground := Ground.phase }], guard := none }) (v := ?vv90) rfl (by kernel_rfl) (by kernel_rfl) (by kernel_rfl) (fun _ _ _ h => h) (Or.inl ⟨by rfl, ?hy90⟩) (by assumption) ?rest90
        case hy90=>(intro w hSw;(try dsimp only at hSw);go_simp;try with_reducible rfl)
        try simp only [Act.put,List.setIfInBounds_toArray]
        try dsimp only [List.set_cons_zero,List.set_cons_succ]
        refine wpAnyH_done (by kernel_rfl) ?_ _
        clear a0 a1 a4 am0 am1 am11 c0 c1 c4 cm0 cm1 cm11 cms;go_wp2_with fail;go_ret
        exact ⟨by simp,k5⟩
end Go.Proofs.Shed
