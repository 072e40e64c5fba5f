/- Of CallsG: WNumE, WNumF, WNumG, NumR. No condition. -/
import Derived.Test.YthhfkhhhclmimaaGreatDoorM09
import Derived.Test.YthhfkhhhclmimaaGreatDoorM21
set_option linter.unusedVariables false
set_option linter.unusedSimpArgs false
set_option maxRecDepth 10000
set_option maxHeartbeats 4000000
namespace Go.Proofs.Shed
open Go Go.RowKit Go.Proofs.K
namespace Num
def figN (b:Nat):List UInt8→Nat→Option Nat
 | [],n=>some n
 | c :: l,n=>if digit c.toNat<0∨(b:Int)≤digit c.toNat then none else figN b l ((n*b+(digit c.toNat).toNat) % 18446744073709551616)
def figures (s:List UInt8) (b:Nat):Nat × Bool:=match figN b s 0 with
 | none=>(0,false)
 | some n=>(n,!s.isEmpty)
theorem digit_bd (c:Nat) : -1≤digit c∧digit c≤35:=by unfold digit;(repeat' split) <;> omega
theorem figN_step (b:Nat) (c:UInt8) (l:List UInt8) (n:Nat):figN b (c :: l) n=if digit c.toNat<0∨(b:Int)≤digit c.toNat then none else figN b l ((n*b+(digit c.toNat).toNat) % 18446744073709551616):=rfl
end Num
theorem num_figures (w:World) (s:List UInt8) (b:Nat) (hb:b≤36) (hs:s.length≤1099511627776) :
 Calls Tryz.prog 252 #[.string ⟨s.toArray⟩,.int .i64 (b:Int)] w fun e w'=>e=.returned (.tuple #[.int .u64 ((Num.figures s b).1:Int),.bool (Num.figures s b).2])∧Keeps (fun _=>False) w w':=by
 have HF:Hid (Num.figures s b=match Num.figN b s 0 with
  | none=>(0,false)
  | some n=>(n,!s.isEmpty)):=h_ rfl
 generalize Num.figures s b=r at HF ⊢
 go_enter Tryz.func252,Tryz.ntmps252
 go_wp2_with fail
 go_loopw [6,11] (fun nv iv wr=>∃ (i n:Nat),nv=.int .u64 (n:Int)∧iv=.int .i64 (i:Int)∧i≤s.length∧n<18446744073709551616∧Num.figN b (s.drop i) n=Num.figN b s 0∧Keeps (fun _=>False) w wr) (fun _ iv _=>s.length-(intOf iv).toNat)
 case atStart=>exact ⟨0,0,rfl,rfl,Nat.zero_le _,by decide,rfl,Keeps.refl _ _⟩
 case round =>
  obtain ⟨i,n,rfl,rfl,hi,hn,hf,hk⟩:=hrel;have K1:=h_ hk;have HFF:=h_ hf;clear hk hf;by_cases hlt:i<s.length
  · have c1:(i:Int)<s.length:=by omega
    go_wp2_with fail;have hd:s.drop i=s[i] :: s.drop (i+1):=(List.drop_eq_getElem_cons hlt);have hff:=HFF.out;rw [hd,Num.figN_step] at hff;have hbd:=Num.digit_bd s[i].toNat;have HDG:=h_ (num_digit wr s[i].toNat s[i].toNat_lt);generalize Num.digit (s[i].toNat:Nat)=g at hff hbd HDG;refine HDG.out.mono ?_;rintro e w1 ⟨rfl,rfl⟩;have HFS:=h_ hff;clear hff hd HFF;by_cases h1:g<0
    · have d1:decide (g<0)=true:=decide_eq_true h1
      have hr:=HFS.out;rw [if_pos (.inl h1)] at hr;have hr2:r=(0,false):=by rw [HF.out,← hr]
      subst hr2;clear hr HF HFS h1;go_wp2_with fail;go_ret2
      exact ⟨rfl,K1.out⟩
    · have d1:decide (g<0)=false:=decide_eq_false h1
      obtain ⟨k,rfl⟩:∃ k:Nat,g=k:=⟨g.toNat,by omega⟩
      by_cases h2:(b:Int)≤(k:Int)
      · have d2:b≤k:=by omega
        have hr:=HFS.out;rw [if_pos (.inr h2)] at hr;have hr2:r=(0,false):=by rw [HF.out,← hr]
        subst hr2;clear hr HF HFS h1 h2;go_wp2_with fail;go_ret2
        exact ⟨rfl,K1.out⟩
      · have d2:¬ b≤k:=by omega
        have hr:=HFS.out;rw [if_neg (fun e=>e.elim h1 h2)] at hr
        rw [Int.toNat_natCast] at hr;have HR:=h_ hr;have e1:IntKind.u64.wrap (b:Int)=b:=by rw [IntKind.wrap_u64];omega
        have e2:IntKind.u64.wrap (k:Int)=k:=by rw [IntKind.wrap_u64];omega
        clear hr HFS h1 h2;go_wp2_with fail
        go_roundw
        case rel =>
         refine ⟨i+1,(n*b+k) % 18446744073709551616,?_,rfl,by omega,Nat.mod_lt _ (by decide),HR.out,K1.out⟩
         congr 1
         rw [IntKind.wrap_u64,IntKind.wrap_u64];simp only [Int.natCast_emod,Int.natCast_add,Int.natCast_mul]
         generalize (n:Int)*(b:Int)=z;rw [show ((18446744073709551616:Nat):Int)=18446744073709551616 from rfl]
         omega
        case measure=>simp [intOf];omega
  · have hie:i=s.length:=by omega
    subst hie;have hr:=HFF.out;rw [List.drop_length] at hr;have hr2:r=(n,!s.isEmpty):=by rw [HF.out,← hr];rfl
    subst hr2;clear hr HF HFF hlt;go_wp2_with fail;go_ret2
    exact ⟨rfl,K1.out⟩
namespace Num
def isQuote (s:List UInt8):Bool:=match s with | [a,_,c]=>a == 39 && c == 39 | _=>false
def prefixed (s:List UInt8) (b:Int):List UInt8 × Int:=match s with
 | c :: t=>if 0<prefix_ c.toNat then (t,prefix_ c.toNat) else (s,b)
 | []=>(s,b)
def signed (s:List UInt8) (b:Int):Int × Bool:=match s with
 | c :: t=>if c=45 then (wrap64 (-((figures t b.toNat).1:Int)),(figures t b.toNat).2) else (wrap64 (figures s b.toNat).1,(figures s b.toNat).2)
 | []=>(0,false)
def plainP (s:List UInt8) (b:Int):Int × Bool:=if right b=false then (0,false) else if (signed s b).2=false then (0,false) else signed s b
def parse (s:List UInt8) (b:Int):Int × Bool :=
 if isQuote s then ((s.getD 1 0).toNat,true) else plainP (prefixed s b).1 (prefixed s b).2
theorem right_bd {b:Int} (h:right b=true):∃ k:Nat,b=k∧k≤36:=by
 unfold right at h;simp at h
 exact ⟨b.toNat,by omega,by omega⟩
end Num
theorem u8_39 (x:UInt8):((x.toNat:Int)=39) ↔ x=39:=⟨fun h=>UInt8.toNat_inj.1 (by rw [show (39:UInt8).toNat=39 from rfl];omega),fun h=>by subst h;rfl⟩
theorem u8_45 (x:UInt8):((x.toNat:Int)=45) ↔ x=45:=⟨fun h=>UInt8.toNat_inj.1 (by rw [show (45:UInt8).toNat=45 from rfl];omega),fun h=>by subst h;rfl⟩
theorem str_tail (c:UInt8) (t:List UInt8):Value.string ((⟨(c :: t).toArray⟩:ByteArray).extract 1 (t.length+1))=.string ⟨t.toArray⟩:=by
 rw [str_extract (c :: t) 1 (t.length+1) (by omega)]
 simp
theorem wrap_uw (z:Int):wrap64 (IntKind.u64.wrap z)=wrap64 z:=by rw [IntKind.wrap_u64];unfold wrap64;omega
def Num.hasPre (s:List UInt8):Bool:=match s with | c :: _=>decide (0<Num.prefix_ c.toNat) | []=>false
def Num.isMinus (s:List UInt8):Bool:=match s with | c :: _=>c == 45 | []=>false
theorem num_parse (w:World) (s:List UInt8) (b:Int) (hs:s.length≤1099511627776) :
 Calls Tryz.prog 144 #[.string ⟨s.toArray⟩,.int .i64 b] w fun e w'=>e=.returned (.tuple #[.int .i64 (Num.parse s b).1,.bool (Num.parse s b).2])∧Keeps (fun _=>False) w w':=by
 have hp:Num.parse s b=if Num.isQuote s then (((s.getD 1 0).toNat:Int),true) else Num.plainP (Num.prefixed s b).1 (Num.prefixed s b).2:=rfl
 generalize Num.parse s b=R at hp ⊢;have HP:=h_ hp;clear hp
 go_enter Tryz.func144,Tryz.ntmps144
 go_upto_region 1 with fail
 go_cut [21] (fun v wx=>v=.bool (Num.isQuote s)∧wx=w)
 case first =>
  match s,hs with
  | [],_ =>
   go_wp2_with fail
   go_meet
   exact ⟨rfl,rfl⟩
  | [_],_ =>
   go_wp2_with fail
   go_meet
   exact ⟨rfl,rfl⟩
  | [_,_],_ =>
   go_wp2_with fail
   go_meet
   exact ⟨rfl,rfl⟩
  | [x,y,z],_ =>
   by_cases hx:x=39
   · have d1:(x.toNat:Int)=39:=(u8_39 x).2 hx
     by_cases hz:z=39
     · have d2:(z.toNat:Int)=39:=(u8_39 z).2 hz
       have HQ:=h_ (show Num.isQuote [x,y,z]=true by subst hx hz;rfl)
       clear hx hz;go_wp2_with fail
       go_meet
       refine ⟨congrArg Value.bool ?_,rfl⟩
       show ((z.toNat:Int) == 39)=_
       rw [HQ.out];simp [d2]
     · have d2:¬ (z.toNat:Int)=39:=mt (u8_39 z).1 hz
       have HQ:=h_ (show Num.isQuote [x,y,z]=false by subst hx;show (true && (z == 39))=false;simp [hz])
       clear hx hz;go_wp2_with fail
       go_meet
       refine ⟨congrArg Value.bool ?_,rfl⟩
       show ((z.toNat:Int) == 39)=_
       rw [HQ.out];simp [d2]
   · have d1:¬ (x.toNat:Int)=39:=mt (u8_39 x).1 hx
     have HQ:=h_ (show Num.isQuote [x,y,z]=false by show ((x == 39) && (z == 39))=false;simp [hx])
     clear hx;go_wp2_with fail
     go_meet
     exact ⟨congrArg Value.bool HQ.out.symm,rfl⟩
  | x :: y :: z :: u :: t,_ =>
   obtain ⟨n,hn⟩:∃ n:Nat,n=(x :: y :: z :: u :: t).length:=⟨_,rfl⟩;have HQ:=h_ (show Num.isQuote (x :: y :: z :: u :: t)=false from rfl)
   have h4:¬ (n:Int)=3:=by rw [hn];simp;omega
   have h5:((x :: y :: z :: u :: t).length:Int)=n:=by rw [hn]
   generalize (x :: y :: z :: u :: t)=s at *;go_wp2_with fail
   go_meet
   exact ⟨congrArg Value.bool HQ.out.symm,rfl⟩
 case rest =>
  obtain ⟨rfl,rfl⟩:=hcut
  cases hq:Num.isQuote s with
  | true =>
   have HQ:=h_ hq
   match s,hs,hq with
   | [x,y,z],_,_ =>
    have hw:wrap64 (y.toNat:Int)=y.toNat:=IntWalk.wrap64_in _ (by have:=y.toNat_lt;omega)
    go_wp2_with fail;go_ret2
    have hr:=HP.out;rw [HQ.out,if_pos rfl] at hr;rw [hr];refine ⟨?_,Keeps.refl _ _⟩
    show Ending.returned (.tuple #[.int .i64 (wrap64 ((y.toNat:Nat):Int)),.bool true])=_
    rw [hw];rfl
  | false =>
   have hr:=HP.out;rw [hq,if_neg (by simp)] at hr
   replace HP:=h_ hr;clear hr;go_upto_region 3 with fail;obtain ⟨w0,hw0⟩:∃ w0,w0=wc:=⟨_,rfl⟩;subst hw0
   go_cut [32] (fun v wx=>v=.bool (Num.hasPre s)∧wx=w0)
   case first =>
    match s,hs with
    | [],_ =>
     go_wp2_with fail
     go_meet
     exact ⟨rfl,rfl⟩
    | c :: t,_ =>
     have hl:(c :: t).length=t.length+1:=rfl;go_wp2_with fail;refine (num_prefix w0 c.toNat c.toNat_lt).mono ?_;rintro e w1 ⟨rfl,rfl⟩;go_wp2_with fail
     go_meet
     exact ⟨rfl,rfl⟩
   case rest =>
    obtain ⟨rfl,rfl⟩:=hcut
    go_upto_if 32 with fail
    obtain ⟨w0,hw0⟩:∃ w0,w0=wc:=⟨_,rfl⟩;subst hw0
    go_cut [0,1] (fun v0 v1 wx=>v0=.string ⟨(Num.prefixed s b).1.toArray⟩∧v1=.int .i64 (Num.prefixed s b).2∧Keeps (fun _=>False) w0 wx)
    case first =>
     match s,hs with
     | [],_ =>
      go_wp2_with fail
      go_meet
      exact ⟨rfl,rfl,Keeps.refl _ _⟩
     | c :: t,_ =>
      have hpx:Num.prefixed (c :: t) b=if 0<Num.prefix_ c.toNat then (t,Num.prefix_ c.toNat) else (c :: t,b):=rfl
      have hb:Num.hasPre (c :: t)=decide (0<Num.prefix_ c.toNat):=rfl;have HPF:=h_ fun V=>num_prefix V c.toNat c.toNat_lt
      have HPX:=h_ hpx;rw [hb];clear hb hpx HP;generalize Num.prefix_ (c.toNat:Nat)=k at HPF HPX ⊢;by_cases hk:0<k
      · have hz:=HPX.out
        rw [if_pos hk] at hz;replace HPX:=h_ hz;rw [decide_eq_true hk];have HT:=h_ (str_tail c t);have h1:(1:Int)≤((c :: t).length:Int):=by simp;omega
        have h2:((c :: t).length:Int)=(t.length:Int)+1:=by simp
        clear hk hz;go_wp2_with fail
        go_region_with (go_at_call 251;refine (HPF.out _).mono ?_;rintro e w1 ⟨rfl,rfl⟩)
        all_goals
         go_wp2_with fail
         go_meet
         rw [HPX.out];exact ⟨HT.out,rfl,Keeps.drew _ _⟩
      · have hz:=HPX.out
        rw [if_neg hk] at hz;replace HPX:=h_ hz;rw [decide_eq_false hk];clear hk hz;go_wp2_with fail
        go_meet
        rw [HPX.out];exact ⟨rfl,rfl,Keeps.refl _ _⟩
    case rest =>
     obtain ⟨rfl,rfl,k0⟩:=hcut;have K0:=h_ k0
     have HLN:=h_ (show (Num.prefixed s b).1.length≤1099511627776 from by
      unfold Num.prefixed;split
      · split
        · simp only [List.length_cons] at hs ⊢;omega
        · exact hs
      · exact hs)
     generalize (Num.prefixed s b).1=s1 at *;generalize (Num.prefixed s b).2=b1 at *;have HR:=h_ (num_right wc b1);have hpl:Num.plainP s1 b1=if Num.right b1=false then (0,false) else if (Num.signed s1 b1).2=false then (0,false) else Num.signed s1 b1:=rfl
     clear k0
     cases hr:Num.right b1 with
     | false =>
      rw [hr] at HR hpl;rw [if_pos rfl] at hpl;have HE:=h_ (HP.out.trans hpl);clear hpl hr;go_wp2_with fail;refine HR.out.mono ?_;rintro e w1 ⟨rfl,rfl⟩;go_wp2_with fail;go_ret2
      rw [HE.out];exact ⟨rfl,K0.out⟩
     | true =>
      obtain ⟨n,rfl,hn⟩:=Num.right_bd hr;rw [hr] at HR hpl;rw [if_neg (by simp)] at hpl
      have HE:=h_ (HP.out.trans hpl);have HN:=h_ hn;clear hpl hr hn;go_upto_region 7 with (refine HR.out.mono ?_;rintro e w1 ⟨rfl,rfl⟩);obtain ⟨w1,hw1⟩:∃ w1,w1=wc:=⟨_,rfl⟩;subst hw1
      go_cut [6] (fun v wx=>v=.bool (Num.isMinus s1)∧wx=w1)
      case first =>
       match s1,HLN with
       | [],_ =>
        go_wp2_with fail
        go_meet
        exact ⟨rfl,rfl⟩
       | c :: t,_ =>
        have h0:(c :: t).length=t.length+1:=rfl;go_wp2_with fail
        go_meet
        refine ⟨congrArg Value.bool ?_,rfl⟩
        show ((c.toNat:Int) == 45)=(c == 45)
        by_cases hc:c=45
        · subst hc;rfl
        · have h1:¬ (c.toNat:Int)=45:=mt (u8_45 c).1 hc
          rw [beq_eq_false_iff_ne.2 h1,beq_eq_false_iff_ne.2 hc]
      case rest =>
       obtain ⟨rfl,rfl⟩:=hcut
       cases hm:Num.isMinus s1 with
       | true =>
        match s1,HE,HLN,hm with
        | c :: t,HE,HLN,hm =>
         have hc:c=45:=by simpa [Num.isMinus] using hm
         have HT:=h_ (str_tail c t);have h1:(1:Int)≤((c :: t).length:Int):=by simp;omega
         have h2:((c :: t).length:Int)=(t.length:Int)+1:=by simp
         have hsg:Num.signed (c :: t) (n:Int)=(wrap64 (-((Num.figures t n).1:Int)),(Num.figures t n).2):=by subst hc;rfl
         have HF:=h_ fun V=>num_figures V t n HN.out (by have:=HLN.out;simp only [List.length_cons] at this;omega)
         have he:=HE.out;rw [hsg] at he;clear HE HLN hsg hc hm;generalize Num.figures t n=q at he HF;obtain ⟨f,ok⟩:=q;simp only at he HF
         have HE:=h_ he;clear he;go_wp2_with fail;rw [HT.out];refine (HF.out _).mono ?_;rintro e w2 ⟨rfl,k2⟩;have K2:=h_ (K0.out.trans k2);clear k2
         cases ok with
         | true =>
          go_wp2_with fail;go_ret2
          have he:R=(wrap64 (IntKind.u64.wrap (-(f:Int))),true):=by rw [HE.out,if_neg (by simp),wrap_uw]
          rw [he];exact ⟨rfl,K2.out⟩
         | false =>
          go_wp2_with fail;go_ret2
          rw [HE.out];exact ⟨rfl,K2.out⟩
       | false =>
        have hsg:Num.signed s1 (n:Int)=(if s1=[] then (0,false) else (wrap64 (Num.figures s1 n).1,(Num.figures s1 n).2)):=by
         match s1,hm with
         | [],_=>rfl
         | c :: t,hm =>
          have hc:¬ c=45:=by simpa [Num.isMinus] using hm
          unfold Num.signed;simp only [hc,if_false]
          rfl
        have hnil:s1=[]→(Num.figures s1 n).2=false:=by intro e;subst e;rfl
        have HF:=h_ fun V=>num_figures V s1 n HN.out HLN.out
        have he:=HE.out;rw [hsg] at he;clear HE hsg hm;generalize Num.figures s1 n=q at he HF hnil;obtain ⟨f,ok⟩:=q;simp only at he HF hnil
        have HNL:=h_ hnil;have HE:=h_ he;clear he hnil;go_wp2_with fail;refine (HF.out _).mono ?_;rintro e w2 ⟨rfl,k2⟩;have K2:=h_ (K0.out.trans k2);clear k2
        cases ok with
        | true =>
         have he:R=(wrap64 (f:Int),true):=by
          have h0:¬ s1=[]:=fun e=>by have:=HNL.out e;cases this
          rw [HE.out,if_neg h0,if_neg (by simp)]
         replace HE:=h_ he;clear he;go_wp2_with fail;go_ret2
         rw [HE.out];exact ⟨rfl,K2.out⟩
        | false =>
         have he:R=(0,false):=by
          rw [HE.out];split <;> rfl
         replace HE:=h_ he;clear he;go_wp2_with fail;go_ret2
         rw [HE.out];exact ⟨rfl,K2.out⟩
end Go.Proofs.Shed
namespace Go.Proofs.Shed
open Go.RowKit
namespace Num
def isFig (c:UInt8):Bool:=decide (48≤c.toNat) && decide (c.toNat≤57)
theorem fig10 (d:Nat) (h:d<10):(fig d).toNat=48+d:=by
 unfold fig;rw [if_pos h];simp
 omega
theorem digit10 (d:Nat) (h:d<10):digit (fig d).toNat=d:=by
 rw [fig10 d h];unfold digit;rw [if_pos (by omega)]
 omega
theorem fig_is10 (d:Nat) (h:d<10):isFig (fig d)=true:=by
 unfold isFig;rw [fig10 d h];simp
 omega
theorem figsN_figs (k n:Nat):∀ c ∈ figsN 10 k n,isFig c=true:=by
 induction k generalizing n with
 | zero=>intro c h;cases h
 | succ k ih =>
  intro c h;unfold figsN at h
  rcases List.mem_cons.1 h with rfl | h
  · exact fig_is10 _ (Nat.mod_lt _ (by decide))
  · split at h
    · cases h
    · exact ih _ c h
theorem figN_append (b:Nat) (s t:List UInt8) (n:Nat):figN b (s++t) n=(figN b s n).bind (figN b t):=by
 induction s generalizing n with
 | nil=>rfl
 | cons c s ih =>
  rw [List.cons_append,figN,figN];split
  · rfl
  · exact ih _
theorem figN_figs (k n:Nat) (hn:n<10 ^ k) (h64:n<18446744073709551616):figN 10 (figsN 10 k n).reverse 0=some n:=by
 induction k generalizing n with
 | zero =>
  have:n=0:=by simpa using hn
  subst this;rfl
 | succ k ih =>
  unfold figsN;rw [List.reverse_cons,figN_append]
  have hlast:∀ m,figN 10 [fig (n % 10)] m=some ((m*10+n % 10) % 18446744073709551616):=by
   intro m;have hd:=digit10 (n % 10) (Nat.mod_lt _ (by decide))
   rw [figN,hd,if_neg (by omega)]
   rfl
  split
  · rename_i h0
    show (some 0).bind _=_
    simp only [Option.bind_some]
    rw [hlast];congr 1
    have:n<10:=by omega
    omega
  · rw [ih (n / 10) (by rw [Nat.pow_succ] at hn;omega) (by omega)]
    simp only [Option.bind_some]
    rw [hlast];congr 1
    omega
theorem figs_ne (k n:Nat):figsN 10 (k+1) n≠[]:=by unfold figsN;simp
theorem figures_is (n:Nat) (h64:n<18446744073709551616):figures (figsN 10 64 n).reverse 10=(n,true):=by
 unfold figures;rw [figN_figs 64 n (Nat.lt_trans h64 (by decide)) h64]
 have:=figs_ne 63 n
 cases hl:(figsN 10 64 n).reverse with
 | nil=>simp at hl;exact absurd hl this
 | cons=>rfl
theorem show_pos (n:Int) (h:0≤n) (h1:n≤9223372036854775807):show_ n 10=(figsN 10 64 n.toNat).reverse:=by
 unfold show_;rw [if_neg (by omega),Int.emod_eq_of_lt h (by omega)]
 rfl
theorem show_neg (n:Int) (h:n<0):show_ n 10=45 :: (figsN 10 64 (-n).toNat).reverse:=by
 unfold show_;rw [if_pos ⟨h,by decide⟩]
 rfl
def numeric (s:List UInt8):Bool:=(match s with | 45 :: t=>!t.isEmpty && t.all isFig | s=>!s.isEmpty && s.all isFig)
theorem isFig_45:isFig 45=false:=by decide
theorem rev_all (n:Nat):(figsN 10 64 n).reverse.all isFig=true:=by
 rw [List.all_eq_true];intro c hc;exact figsN_figs 64 n c (List.mem_reverse.1 hc)
theorem rev_ne (n:Nat):(figsN 10 64 n).reverse≠[]:=by
 intro e;exact figs_ne 63 n (by simpa using e)
theorem numeric_of {s:List UInt8} (h1:s≠[]) (h2:s.all isFig=true):numeric s=true:=by
 cases s with
 | nil=>exact absurd rfl h1
 | cons c t =>
  have hc:isFig c=true:=by simp at h2;exact h2.1
  have hne:c≠45:=fun e=>by rw [e,isFig_45] at hc;cases hc
  unfold numeric;split
  · rename_i e
    injection e with e1 e2
    exact absurd e1 hne
  · simp only [Bool.and_eq_true]
    exact ⟨rfl,h2⟩
theorem show_numeric (n:Int) (h0 : -9223372036854775808≤n) (h1:n≤9223372036854775807):numeric (show_ n 10)=true:=by
 by_cases h:n<0
 · rw [show_neg n h]
   unfold numeric;simp only [Bool.and_eq_true]
   refine ⟨?_,rev_all _⟩
   cases hl:(figsN 10 64 (-n).toNat).reverse with
   | nil=>exact absurd hl (rev_ne _)
   | cons=>rfl
 · rw [show_pos n (by omega) h1]
   exact numeric_of (rev_ne _) (rev_all _)
theorem isFig_bd {c:UInt8} (h:isFig c=true):48≤c.toNat∧c.toNat≤57:=by
 unfold isFig at h;simpa using h
theorem quote_no (c:UInt8) (t:List UInt8) (h:c≠39):isQuote (c :: t)=false:=by
 unfold isQuote;split
 · rename_i a b d e
   injection e with e1 e2
   subst e1;simp [h]
 · rfl
theorem prefixed_no (c:UInt8) (t:List UInt8) (b:Int) (h:c.toNat=45∨48≤c.toNat):prefixed (c :: t) b=(c :: t,b):=by
 unfold prefixed prefix_;simp only
 rw [if_neg];rw [if_neg (by omega),if_neg (by omega),if_neg (by omega)]
 omega
theorem parse_show (n:Int) (h0 : -9223372036854775808≤n) (h1:n≤9223372036854775807):parse (show_ n 10) 10=(n,true):=by
 by_cases h:n<0
 · rw [show_neg n h]
   unfold parse;rw [quote_no _ _ (by decide),prefixed_no _ _ _ (.inl rfl)]
   have hs:signed (45 :: (figsN 10 64 (-n).toNat).reverse) 10=(n,true):=by
    unfold signed;dsimp only;rw [if_pos rfl]
    show (wrap64 (-((figures (figsN 10 64 (-n).toNat).reverse 10).1:Int)),(figures (figsN 10 64 (-n).toNat).reverse 10).2)=_
    rw [figures_is _ (by omega)]
    refine Prod.ext ?_ rfl
    show wrap64 (-(((-n).toNat:Nat):Int))=n
    unfold wrap64;omega
   unfold plainP;rw [hs];simp [right]
 · rw [show_pos n (by omega) h1]
   cases hl:(figsN 10 64 n.toNat).reverse with
   | nil=>exact absurd hl (rev_ne _)
   | cons c t =>
    have hc:isFig c=true:=List.all_eq_true.1 (rev_all n.toNat) c (by rw [hl];simp)
    have hb:=isFig_bd hc;unfold parse;rw [quote_no _ _ (fun e=>by rw [e] at hb;revert hb;decide),prefixed_no _ _ _ (.inr hb.1)]
    have hs:signed (c :: t) 10=(n,true):=by
     unfold signed;dsimp only;rw [if_neg (show ¬ c=45 from fun e=>by rw [e] at hb;revert hb;decide),← hl]
     show (wrap64 ((figures (figsN 10 64 n.toNat).reverse 10).1:Int),(figures (figsN 10 64 n.toNat).reverse 10).2)=_
     rw [figures_is _ (by omega)]
     refine Prod.ext ?_ rfl
     show wrap64 ((n.toNat:Nat):Int)=n
     unfold wrap64;omega
    unfold plainP;simp only [Bool.false_eq_true,if_false]
    rw [hs];simp [right]
end Num
end Go.Proofs.Shed
