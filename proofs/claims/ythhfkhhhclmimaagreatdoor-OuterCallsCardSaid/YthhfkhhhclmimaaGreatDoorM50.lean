/- Of CallsG: WRfG. No condition. -/
import Derived.Test.YthhfkhhhclmimaaGreatDoorM33
set_option linter.unusedVariables false
set_option linter.unusedSimpArgs false
set_option maxRecDepth 10000
set_option maxHeartbeats 4000000
namespace Go.Proofs.Shed
open Go Go.RowKit Go.Proofs.K Go.Proofs.Cod
theorem rk_all (w:World) (d b:Nat) (fr mo o u:Int) (h:RRk w d b fr mo o u):Calls Tryz.prog 137 #[.pointer (some ⟨d,0,none⟩)] w fun e w'=>e=.returned (.slice none 0 0)∧Keeps (fun _=>False) w w':=by
 have c3:w.cell? ⟨d,3,none⟩=some (.int .i64 0):=cell_of h rfl;clear h
 go_enter Tryz.func137,Tryz.ntmps137
 go_wp2_with fail
 go_loopw [3,4] (fun sv iv wr=>sv=.slice none 0 0∧iv=.int .i64 0∧wr=w) (fun _ _ _=>0)
 case atStart=>exact ⟨rfl,rfl,rfl⟩
 case round =>
  obtain ⟨rfl,rfl,rfl⟩:=hrel;go_wp2_with fail;go_ret
  exact ⟨rfl,Keeps.refl _ _⟩
theorem mem_same (w:World) (b bb b' bb':Nat) (m:Mem) (h:RMem w b bb m) (h':RRm w b' bb' m) :
 Calls Tryz.prog 139 #[.pointer (some ⟨b,0,none⟩),.pointer (some ⟨b',0,none⟩)] w fun e w'=>e=.returned (.bool true)∧w=w':=by
 have HS:=h_ (mem_size w b bb m h);have HT:=h_ (mem_text w b bb m 0 m.size h)
 have ht:m.text 0 m.size=(bytesN m.size (m.get 0 m.size),0):=by
  unfold Mem.text;rw [if_pos (by rw [m.has_iff];omega)]
  rfl
 rw [ht] at HT;have h0:=h'.cell
 have hconv:=run_convert_bytes_arg (P:=Tryz.prog) w 143 5 Tryz.underlying143 Tryz.underlying5 bb' 0 m.size m.size ((List.range m.size).map fun i=>(m.byte (0+i):Int)) (by simp) (fun i hi=>by
  have:=h'.byte (i:=i) hi;rw [show (0:Nat)+i=i from Nat.zero_add i,this]
  simp [List.getD_eq_getElem?_getD,hi]) 9 Tryz.underlying9
 rw [str_text] at hconv;dsimp only [strV] at HT;generalize bytesN m.size (m.get 0 m.size)=L at HT hconv;clear ht h h';generalize m.size=n at *
 go_enter Tryz.func139,Tryz.ntmps139
 go_wp2_with fail;refine HS.out.mono ?_;rintro e w1 ⟨rfl,rfl⟩;go_wp2_with fail;refine HT.out.mono ?_;rintro e w1 ⟨rfl,rfl⟩;go_wp2_with fail;go_ret
 exact ⟨by simp,rfl⟩
structure Idle (v:VM):Prop where
 d:v.d.depth=0
 r:v.r.depth=0
 out:v.out=[]
 fuel:v.fuel=0
 over:v.over=false
theorem same15 (w:World) (K:Bk) (v:VM) (r bb:Nat) (c:Rc) (h:RFv w K v) (hv:Idle v) (hc:RRc w r c) (hs:RRs w c.ss c.ms bb v.x) (f1 m1 o1 u1 f2 m2 o2 u2:Int) (hd:RRk w c.ds c.ms f1 m1 o1 u1) (hr:RRk w c.rs c.ms f2 m2 o2 u2) (hb:c.base=v.base) (hi:c.inp=v.inp) :
 Calls Tryz.prog 73 #[.pointer (some ⟨K.mb,0,none⟩),.pointer (some ⟨r,0,none⟩)] w fun e w'=>e=.returned (.bool true)∧Keeps (fun _=>False) w w':=by
 obtain ⟨v1,v2,v3,v4,v5⟩:=hv;have da:Stk.all v.x.mem v.d=[]:=by unfold Stk.all;rw [v1];rfl
 have ra:Stk.all v.x.mem v.r=[]:=by unfold Stk.all;rw [v2];rfl
 have HD:=h_ fun V (k:Keeps (fun _=>False) w V)=>stk_all V K.db K.b K.bb v.d v.x.mem (h.keeps0 k).vm.dk (h.keeps0 k).vm.sp.mem
 have HR:=h_ fun V (k:Keeps (fun _=>False) w V)=>stk_all V K.rb K.b K.bb v.r v.x.mem (h.keeps0 k).vm.rk (h.keeps0 k).vm.sp.mem
 rw [da] at HD;rw [ra] at HR;dsimp only [List.length_nil] at HD HR;have HD2:=h_ fun V (k:Keeps (fun _=>False) w V)=>rk_all V c.ds c.ms f1 m1 o1 u1 (k.heap hd id)
 have HR2:=h_ fun V (k:Keeps (fun _=>False) w V)=>rk_all V c.rs c.ms f2 m2 o2 u2 (k.heap hr id)
 have HH:=h_ fun V (k:Keeps (fun _=>False) w V)=>sp_here V K.s K.b K.bb v.x (h.keeps0 k).vm.sp
 have HC:=h_ fun V (k:Keeps (fun _=>False) w V)=>rm_cell V c.ms bb v.x.mem v.base (hs.mem.keeps k id id)
 have HM:=h_ fun V (k:Keeps (fun _=>False) w V)=>mem_same V K.b K.bb c.ms bb v.x.mem (h.keeps0 k).vm.sp.mem (hs.mem.keeps k id id)
 have HB:=h_ fun V (k:Keeps (fun _=>False) w V)=>fv_base K V v (h.keeps0 k)
 have hbn:v.baseN=(v.x.mem.cell v.base).1:=rfl;rw [hbn] at HB;generalize v.x.mem.cell v.base=q at HC HB;have x0:=fun V (k:Keeps (fun _=>False) w V)=>k.cell h.m0 id
 have x1:=fun V (k:Keeps (fun _=>False) w V)=>k.cell h.m1 id
 have x2:=fun V (k:Keeps (fun _=>False) w V)=>k.cell h.m2 id
 have x10:=fun V (k:Keeps (fun _=>False) w V)=>k.cell h.m10 id
 have x11:=fun V (k:Keeps (fun _=>False) w V)=>k.cell h.m11 id
 have x12:=fun V (k:Keeps (fun _=>False) w V)=>k.cell h.m12 id
 have x13:=fun V (k:Keeps (fun _=>False) w V)=>k.cell h.m13 id
 have xs:=fun V (k:Keeps (fun _=>False) w V)=>k.cell h.ms id
 rw [v4] at x10;rw [v3] at x11;rw [v5] at x13;have z0:=fun V (k:Keeps (fun _=>False) w V)=>k.cell (show w.cell? ⟨r,0,none⟩=some (.pointer (some ⟨c.ms,0,none⟩)) from cell_of hc rfl) id
 have z1:=fun V (k:Keeps (fun _=>False) w V)=>k.cell hc.c1 id
 have z2:=fun V (k:Keeps (fun _=>False) w V)=>k.cell (show w.cell? ⟨r,2,none⟩=some (.pointer (some ⟨c.ds,0,none⟩)) from cell_of hc rfl) id
 have z3:=fun V (k:Keeps (fun _=>False) w V)=>k.cell (show w.cell? ⟨r,3,none⟩=some (.pointer (some ⟨c.rs,0,none⟩)) from cell_of hc rfl) id
 have z10:=fun V (k:Keeps (fun _=>False) w V)=>k.cell hc.c10 id
 have z13:=fun V (k:Keeps (fun _=>False) w V)=>k.cell (show w.cell? ⟨r,13,none⟩=some (.int .i64 0) from cell_of hc rfl) id
 have z14:=fun V (k:Keeps (fun _=>False) w V)=>k.cell (show w.cell? ⟨r,14,none⟩=some (.string ⟨#[]⟩) from cell_of hc rfl) id
 have z15:=fun V (k:Keeps (fun _=>False) w V)=>k.cell (show w.cell? ⟨r,15,none⟩=some (.string ⟨c.inp.toArray⟩) from cell_of hc rfl) id
 have z16:=fun V (k:Keeps (fun _=>False) w V)=>k.cell (show w.cell? ⟨r,16,none⟩=some (.bool false) from cell_of hc rfl) id
 have zh:=fun V (k:Keeps (fun _=>False) w V)=>k.cell hs.c3 id
 rw [hb] at z10;rw [hi] at z15;generalize v.x.here=here at HH zh;generalize v.inp=inp at x12 z15;generalize v.base=base at z10 HC;clear h hc hs hd hr hb hi da ra hbn v1 v2 v3 v4 v5
 have HALL:=h_ (show ∀ V,Keeps (fun _=>False) w V→V.cell? ⟨K.mb,1,none⟩=some (.pointer (some ⟨K.db,0,none⟩))∧V.cell? ⟨K.mb,2,none⟩=some (.pointer (some ⟨K.rb,0,none⟩))∧V.cell? ⟨K.mb,0,none⟩=some (.pointer (some ⟨K.s,0,none⟩)) ∧
  V.cell? ⟨K.mb,10,none⟩=some (.int .i64 0)∧V.cell? ⟨K.mb,11,none⟩=some (.string ⟨#[]⟩)∧V.cell? ⟨K.mb,12,none⟩=some (.string ⟨inp.toArray⟩)∧V.cell? ⟨K.mb,13,none⟩=some (.bool false) ∧
  V.cell? ⟨r,1,none⟩=some (.pointer (some ⟨c.ss,0,none⟩))∧V.cell? ⟨r,2,none⟩=some (.pointer (some ⟨c.ds,0,none⟩))∧V.cell? ⟨r,3,none⟩=some (.pointer (some ⟨c.rs,0,none⟩))∧V.cell? ⟨r,13,none⟩=some (.int .i64 0) ∧
  V.cell? ⟨r,14,none⟩=some (.string ⟨#[]⟩)∧V.cell? ⟨r,15,none⟩=some (.string ⟨inp.toArray⟩)∧V.cell? ⟨r,16,none⟩=some (.bool false)∧V.cell? ⟨c.ss,3,none⟩=some (.int .i64 here) from
  fun V k=>⟨x1 V k,x2 V k,x0 V k,x10 V k,x11 V k,x12 V k,x13 V k,z1 V k,z2 V k,z3 V k,z13 V k,z14 V k,z15 V k,z16 V k,zh V k⟩)
 have HTWO:=h_ (show ∀ V,Keeps (fun _=>False) w V→V.cell? ⟨r,0,none⟩=some (.pointer (some ⟨c.ms,0,none⟩))∧V.cell? ⟨r,10,none⟩=some (.int .i64 base) from fun V k=>⟨z0 V k,z10 V k⟩)
 have HTHR:=h_ (show ∀ V,Keeps (fun _=>False) w V→V.cell? ⟨r,0,none⟩=some (.pointer (some ⟨c.ms,0,none⟩))∧V.cell? ⟨K.mb,0,none⟩=some (.pointer (some ⟨K.s,0,none⟩))∧V.cell? ⟨K.s,0,none⟩=some (.pointer (some ⟨K.b,0,none⟩)) from fun V k=>⟨z0 V k,x0 V k,xs V k⟩)
 clear x0 x1 x2 x10 x11 x12 x13 xs z0 z1 z2 z3 z10 z13 z14 z15 z16 zh;obtain ⟨y1,y2,y0,y10,y11,y12,y13,b1,b2,b3,b13,b14,b15,b16,bh⟩:=HALL.out w (Keeps.refl _ _)
 go_enter Tryz.func73,Tryz.ntmps73
 go_wp2_with fail
 (try dsimp only [List.append])
 go_region_held3 (fun V=>V.cell? ⟨K.mb,1,none⟩=some (.pointer (some ⟨K.db,0,none⟩))∧V.cell? ⟨K.mb,2,none⟩=some (.pointer (some ⟨K.rb,0,none⟩))∧V.cell? ⟨K.mb,0,none⟩=some (.pointer (some ⟨K.s,0,none⟩)) ∧
  V.cell? ⟨K.mb,10,none⟩=some (.int .i64 0)∧V.cell? ⟨K.mb,11,none⟩=some (.string ⟨#[]⟩)∧V.cell? ⟨K.mb,12,none⟩=some (.string ⟨inp.toArray⟩)∧V.cell? ⟨K.mb,13,none⟩=some (.bool false) ∧
  V.cell? ⟨r,1,none⟩=some (.pointer (some ⟨c.ss,0,none⟩))∧V.cell? ⟨r,2,none⟩=some (.pointer (some ⟨c.ds,0,none⟩))∧V.cell? ⟨r,3,none⟩=some (.pointer (some ⟨c.rs,0,none⟩))∧V.cell? ⟨r,13,none⟩=some (.int .i64 0) ∧
  V.cell? ⟨r,14,none⟩=some (.string ⟨#[]⟩)∧V.cell? ⟨r,15,none⟩=some (.string ⟨inp.toArray⟩)∧V.cell? ⟨r,16,none⟩=some (.bool false)∧V.cell? ⟨c.ss,3,none⟩=some (.int .i64 here))
  (first | exact HALL.out w6 k6 | exact HALL.out w5 k5 | exact HALL.out w4 k4 | exact HALL.out w3 k3 | exact HALL.out w2 k2 | exact HALL.out w1 k1 | exact HALL.out w.drew (Keeps.drew _ _) | exact HALL.out w (Keeps.refl _ _))
  (first
    | (go_at_call 20;have kk:=k3;refine (HR.out w3 kk).mono ?_;rintro e w4 ⟨sb,sd,rfl,_,k4'⟩;dsimp only;have k4:=k3.trans k4')
    | (go_at_call 20;refine (HD.out w.drew (Keeps.drew _ _)).mono ?_;rintro e w1 ⟨sa,sc,rfl,_,k1'⟩;dsimp only;have k1:=(kd_ w).trans k1')
    | (go_at_call 137;have kk:=k4;refine (HR2.out w4 kk).mono ?_;rintro e w5 ⟨rfl,k5'⟩;dsimp only;have k5:=k4.trans k5')
    | (go_at_call 137;refine (HD2.out w1 k1).mono ?_;rintro e w2 ⟨rfl,k2'⟩;dsimp only;have k2:=k1.trans k2')
    | (go_at_call 19;have kk:=k5;refine (eq_nil w5 sb none sd 0).mono ?_;rintro e w6 ⟨rfl,k6'⟩;dsimp only;have k6:=k5.trans k6')
    | (go_at_call 19;refine (eq_nil w2 sa none sc 0).mono ?_;rintro e w3 ⟨rfl,k3'⟩;dsimp only;have k3:=k2.trans k3')
    | (go_at_call 35;refine (HH.out w6 k6).mono ?_;rintro e w7 ⟨rfl,rfl⟩;dsimp only))
 have K6:=h_ k6;clear y1 y2 y0 y10 y11 y12 y13 b1 b2 b3 b13 b14 b15 b16 bh k1 k2 k3 k4 k5 k6 HD HR HD2 HR2 HH;obtain ⟨z0,z10⟩:=HTWO.out w6 K6.out;go_wp2_with fail
 go_region_held3 (fun V=>V.cell? ⟨r,0,none⟩=some (.pointer (some ⟨c.ms,0,none⟩))∧V.cell? ⟨r,10,none⟩=some (.int .i64 base))
  (first | exact HTWO.out _ k8 | exact HTWO.out _ (K6.out.trans (Keeps.drew _ _)) | exact HTWO.out _ K6.out)
  (first
    | (go_at_call 138;refine (HC.out w6.drew (K6.out.trans (Keeps.drew _ _))).mono ?_;rintro e w8 ⟨rfl,rfl⟩;dsimp only;have k8:=K6.out.trans (kd_ w6)))
 have K8:=h_ (K6.out.trans (kd_ w6));generalize w6.drew=W8 at K8 ⊢;clear z0 z10 HC HTWO;obtain ⟨t0,t1,t2⟩:=HTHR.out W8 K8.out;go_wp2_with fail
 (try dsimp only [List.append])
 go_region_held3 (fun V=>V.cell? ⟨r,0,none⟩=some (.pointer (some ⟨c.ms,0,none⟩))∧V.cell? ⟨K.mb,0,none⟩=some (.pointer (some ⟨K.s,0,none⟩))∧V.cell? ⟨K.s,0,none⟩=some (.pointer (some ⟨K.b,0,none⟩)))
  (first | exact HTHR.out _ k11 | exact HTHR.out W8.drew k9 | exact HTHR.out W8.drew (K8.out.trans (Keeps.drew _ _)) | exact HTHR.out W8 K8.out)
  (first
    | (go_at_call 139;refine (HM.out W8.drew (K8.out.trans (Keeps.drew _ _))).mono ?_;rintro e w9 ⟨rfl,rfl⟩;dsimp only;have k9:=K8.out.trans (kd_ W8))
    | (go_at_call 140;refine (HB.out W8.drew k9).mono ?_;rintro e w10 ⟨rfl,k10⟩;dsimp only;have k11:=k9.trans k10))
 clear t0 t1 t2;go_wp2_with fail;go_ret
 exact ⟨by simp,k11⟩
end Go.Proofs.Shed
