/- Of CallsG: Mem, MemS, SrcS, SpaceS, TableS, ClassS, HeadS, HeadP, NumS, StackS, HeapS, TabP, HeapP, HeapQ. No condition. -/
set_option linter.unusedVariables false
set_option linter.unusedSimpArgs false
namespace Go.Proofs.Shed
structure Mem where
 size:Nat
 bits:Nat
 deriving DecidableEq
namespace Mem
def get (m:Mem) (a n:Nat):Nat:=(m.bits >>> (8*a)) % 2 ^ (8*n)
def put (m:Mem) (a n v:Nat):Mem:={ m with bits:=m.bits ^^^ ((((m.bits >>> (8*a)) % 2 ^ (8*n)) ^^^ (v % 2 ^ (8*n))) <<< (8*a)) }
abbrev byte (m:Mem) (a:Nat):Nat:=m.get a 1
theorem put_size (m:Mem) (a n v:Nat):(m.put a n v).size=m.size:=rfl
theorem put_bit (m:Mem) (a n v j:Nat):(m.put a n v).bits.testBit j=if 8*a≤j∧j<8*a+8*n then v.testBit (j-8*a) else m.bits.testBit j:=by
 simp only [put,Nat.testBit_xor,Nat.testBit_shiftLeft,Nat.testBit_mod_two_pow,Nat.testBit_shiftRight]
 by_cases h1:8*a≤j
 · by_cases h2:j<8*a+8*n
   · have h3:j-8*a<8*n:=by omega
     have h4:8*a+(j-8*a)=j:=by omega
     simp [h1,h2,h3,h4]
   · have h3:¬ j-8*a<8*n:=by omega
     simp [h2,h3]
 · simp [h1]
theorem get_bit (m:Mem) (a n j:Nat):(m.get a n).testBit j=(decide (j<8*n) && m.bits.testBit (8*a+j)):=by
 simp only [get,Nat.testBit_mod_two_pow,Nat.testBit_shiftRight]
theorem get_lt (m:Mem) (a n:Nat):m.get a n<2 ^ (8*n):=Nat.mod_lt _ (Nat.two_pow_pos _)
theorem byte_lt (m:Mem) (a:Nat):m.byte a<256:=m.get_lt a 1
theorem get_put_same (m:Mem) (a n v:Nat):(m.put a n v).get a n=v % 2 ^ (8*n):=by
 apply Nat.eq_of_testBit_eq
 intro j;rw [get_bit,put_bit,Nat.testBit_mod_two_pow];by_cases h:j<8*n
 · have h2:8*a+j-8*a=j:=by omega
   simp [h,h2]
 · simp [h]
theorem get_put_apart (m:Mem) (a n v b k:Nat) (h:b+k≤a∨a+n≤b):(m.put a n v).get b k=m.get b k:=by
 apply Nat.eq_of_testBit_eq
 intro j;rw [get_bit,get_bit,put_bit];by_cases h1:j<8*k
 · rw [if_neg (by omega)]
 · simp [h1]
theorem get_put_in (m:Mem) (a n v b k:Nat) (h1:a≤b) (h2:b+k≤a+n):(m.put a n v).get b k=(v >>> (8*(b-a))) % 2 ^ (8*k):=by
 apply Nat.eq_of_testBit_eq
 intro j;rw [get_bit,put_bit,Nat.testBit_mod_two_pow,Nat.testBit_shiftRight];by_cases h:j<8*k
 · rw [if_pos (by omega)]
   have:8*b+j-8*a=8*(b-a)+j:=by omega
   simp [h,this]
 · simp [h]
theorem get_zero (m:Mem) (a:Nat):m.get a 0=0:=by simp [get,Nat.mod_one]
theorem put_zero (m:Mem) (a v:Nat):m.put a 0 v=m:=by
 have:m.bits ^^^ ((((m.bits >>> (8*a)) % 2 ^ (8*0)) ^^^ (v % 2 ^ (8*0))) <<< (8*a))=m.bits:=by simp [Nat.mod_one]
 unfold put;rw [this]
theorem get_succ (m:Mem) (a n:Nat):m.get a (n+1)=m.get a n ||| (m.byte (a+n) <<< (8*n)):=by
 apply Nat.eq_of_testBit_eq
 intro j;rw [Nat.testBit_or,Nat.testBit_shiftLeft,get_bit,get_bit,get_bit];by_cases h1:j<8*n
 · have h2:j<8*(n+1):=by omega
   have h3:¬ 8*n≤j:=by omega
   simp [h1,h2,h3]
 · by_cases h2:j<8*(n+1)
   · have h3:8*n≤j:=by omega
     have h4:j-8*n<8:=by omega
     have h5:8*(a+n)+(j-8*n)=8*a+j:=by omega
     simp [h1,h2,h3,h4,h5]
   · have h4:¬ j-8*n<8:=by omega
     simp [h1,h2,h4]
theorem put_succ (m:Mem) (a n v:Nat):m.put a (n+1) v=(m.put a n v).put (a+n) 1 (v >>> (8*n)):=by
 have:(m.put a (n+1) v).bits=((m.put a n v).put (a+n) 1 (v >>> (8*n))).bits:=by
  apply Nat.eq_of_testBit_eq
  intro j;rw [put_bit,put_bit,put_bit,Nat.testBit_shiftRight];by_cases h1:8*(a+n)≤j∧j<8*(a+n)+8*1
  · rw [if_pos (by omega),if_pos h1]
    congr 1
    omega
  · rw [if_neg h1]
    by_cases h2:8*a≤j∧j<8*a+8*n
    · rw [if_pos (by omega),if_pos h2]
    · rw [if_neg (by omega),if_neg h2]
 unfold put at *;simpa using this
end Mem
def s64 (u:Nat):Int:=if u<9223372036854775808 then (u:Int) else (u:Int)-18446744073709551616
def u64 (n:Int):Nat:=(n % 18446744073709551616).toNat
theorem u64_lt (n:Int):u64 n<18446744073709551616:=by unfold u64;omega
theorem s64_u64 (n:Int) (h0 : -9223372036854775808≤n) (h1:n≤9223372036854775807):s64 (u64 n)=n:=by
 unfold s64 u64;split <;> omega
theorem s64_bd (u:Nat) (h:u<18446744073709551616) : -9223372036854775808≤s64 u∧s64 u≤9223372036854775807:=by
 unfold s64;split <;> omega
def leN:List UInt8→Nat
 | []=>0
 | b :: l=>b.toNat+256*leN l
def bytesN:Nat→Nat→List UInt8
 | 0,_=>[]
 | n+1,v=>UInt8.ofNat v :: bytesN n (v / 256)
theorem bytesN_len (n v:Nat):(bytesN n v).length=n:=by
 induction n generalizing v with
 | zero=>rfl
 | succ n ih=>simp [bytesN,ih]
theorem bytesN_leN (l:List UInt8):bytesN l.length (leN l)=l:=by
 induction l with
 | nil=>rfl
 | cons b l ih =>
  have:=b.toNat_lt;rw [List.length_cons,bytesN,leN];congr 1
  · apply UInt8.toNat_inj.1
    rw [UInt8.toNat_ofNat'];omega
  · rw [show (b.toNat+256*leN l) / 256=leN l by omega]
    exact ih
theorem bytesN_get (n v i:Nat) (h:i<(bytesN n v).length):((bytesN n v)[i]).toNat=(v >>> (8*i)) % 256:=by
 induction n generalizing v i with
 | zero=>simp [bytesN] at h
 | succ n ih =>
  cases i with
  | zero=>simp [bytesN]
  | succ i =>
   have hi:i<(bytesN n (v / 256)).length:=by simp [bytesN] at h;exact h
   have:(bytesN (n+1) v)[i+1]=(bytesN n (v / 256))[i]:=rfl;rw [this,ih _ _ hi,show 8*(i+1)=8+8*i by omega,Nat.shiftRight_add,Nat.shiftRight_eq_div_pow v 8]
namespace Mem
def zero (n:Nat):Mem:=⟨n,0⟩
def has (m:Mem) (a n:Int):Bool:=decide (0≤n) && decide (0≤a) && decide (n≤m.size) && decide (a≤m.size-n)
def at_ (m:Mem) (a:Int):Int:=if m.has a 8 then (if a % 8=0 then 0 else -23) else -9
def cell (m:Mem) (a:Int):Int × Int:=if m.at_ a=0 then (s64 (m.get a.toNat 8),0) else (0,m.at_ a)
def setCell (m:Mem) (a n:Int):Mem × Int:=if m.at_ a=0 then (m.put a.toNat 8 (u64 n),0) else (m,m.at_ a)
def byteAt (m:Mem) (a:Int):Int × Int:=if m.has a 1 then ((m.byte a.toNat:Int),0) else (0,-9)
def setByte (m:Mem) (a n:Int):Mem × Int:=if m.has a 1 then (m.put a.toNat 1 (u64 n),0) else (m,-9)
def text (m:Mem) (a n:Int):List UInt8 × Int:=if m.has a n then (bytesN n.toNat (m.get a.toNat n.toNat),0) else ([],-9)
def setText (m:Mem) (a:Int) (s:List UInt8):Mem × Int:=if m.has a s.length then (m.put a.toNat s.length (leN s),0) else (m,-9)
def newCode (size:Int):Int:=if 0≤size∧size≤1048576∧size % 8=0 then 0 else -256
theorem has_iff (m:Mem) (a n:Int):m.has a n=true ↔ 0≤n∧0≤a∧a+n≤m.size:=by
 unfold has;simp only [Bool.and_eq_true,decide_eq_true_eq]
 omega
theorem at_zero (m:Mem) (a:Int):m.at_ a=0 ↔ 0≤a∧a+8≤m.size∧a % 8=0:=by
 unfold at_;by_cases h:m.has a 8=true
 · rw [if_pos h]
   rw [has_iff] at h;split <;> omega
 · rw [if_neg h]
   rw [has_iff] at h;omega
theorem at_cases (m:Mem) (a:Int):m.at_ a=0∨m.at_ a = -23∨m.at_ a = -9:=by
 unfold at_;split
 · split
   · exact .inl rfl
   · exact .inr (.inl rfl)
 · exact .inr (.inr rfl)
theorem setCell_size (m:Mem) (a n:Int):(m.setCell a n).1.size=m.size:=by unfold setCell;split <;> rfl
theorem setByte_size (m:Mem) (a n:Int):(m.setByte a n).1.size=m.size:=by unfold setByte;split <;> rfl
theorem setText_size (m:Mem) (a:Int) (s:List UInt8):(m.setText a s).1.size=m.size:=by unfold setText;split <;> rfl
theorem cell_bd (m:Mem) (a:Int) : -9223372036854775808≤(m.cell a).1∧(m.cell a).1≤9223372036854775807:=by
 unfold cell;split
 · exact s64_bd _ (by have:=m.get_lt a.toNat 8;simpa using this)
 · simp
end Mem
namespace Src
def blank (c:UInt8):Bool:=decide (c.toNat≤32)
def skip (s:List UInt8) (at_:Nat):Nat:=at_+((s.drop at_).takeWhile blank).length
def word (s:List UInt8) (at_:Nat):List UInt8 × Nat :=
 let i:=skip s at_
 let w:=(s.drop i).takeWhile fun c=>!blank c
 let j:=i+w.length
 (w,if (s.drop j).head?.any (fun c=>decide (c.toNat≠10)) then j+1 else j)
theorem takeWhile_len {α:Type} (p:α→Bool) (l:List α) (n:Nat) (hn:n≤l.length) (h:∀ k (hk:k<l.length),k<n→p l[k]=true) (he:n=l.length∨∃ hk:n<l.length,p l[n]=false):l.takeWhile p=l.take n:=by
 induction l generalizing n with
 | nil=>simp
 | cons x l ih =>
  cases n with
  | zero =>
   rcases he with he | ⟨_,he⟩
   · simp at he
   · have:p x=false:=he
     rw [List.takeWhile_cons,this];rfl
  | succ n =>
   have hx:p x=true:=h 0 (by simp) (by omega)
   rw [List.takeWhile_cons,if_pos hx,List.take_succ_cons];congr 1
   refine ih n (by simpa using hn) (fun k hk hkn=>h (k+1) (by simpa using hk) (by omega)) ?_
   rcases he with he | ⟨hk,he⟩
   · left;simpa using he
   · right;exact ⟨by simpa using hk,he⟩
theorem run_len (p:UInt8→Bool) (s:List UInt8) (a n:Nat) (ha:a≤n) (hn:n≤s.length) (h:∀ k (hk:k<s.length),a≤k→k<n→p s[k]=true) (he:n=s.length∨∃ hk:n<s.length,p s[n]=false):(s.drop a).takeWhile p=(s.drop a).take (n-a):=by
 refine takeWhile_len p _ (n-a) (by rw [List.length_drop];omega) (fun k hk hkn=>?_) ?_
 · rw [List.getElem_drop]
   rw [List.length_drop] at hk;exact h (a+k) (by omega) (by omega) (by omega)
 · rcases he with he | ⟨hk,he⟩
   · left;rw [List.length_drop];omega
   · right
     refine ⟨by rw [List.length_drop];omega,?_⟩
     rw [List.getElem_drop];have:a+(n-a)=n:=by omega
     simp only [this]
     exact he
theorem skip_is (s:List UInt8) (a n:Nat) (ha:a≤n) (hn:n≤s.length) (h:∀ k (hk:k<s.length),a≤k→k<n→blank s[k]=true) (he:n=s.length∨∃ hk:n<s.length,blank s[n]=false):skip s a=n:=by
 unfold skip;rw [run_len blank s a n ha hn h he,List.length_take,List.length_drop];omega
theorem word_is (s:List UInt8) (a i j:Nat) (hs:skip s a=i) (ha:i≤j) (hn:j≤s.length) (h:∀ k (hk:k<s.length),i≤k→k<j→blank s[k]=false) (he:j=s.length∨∃ hk:j<s.length,blank s[j]=true) :
 word s a=((s.drop i).take (j-i),if (s.drop j).head?.any (fun c=>decide (c.toNat≠10)) then j+1 else j):=by
 have hw:=run_len (fun c=>!blank c) s i j ha hn (fun k hk h1 h2=>by simp [h k hk h1 h2]) (by
  rcases he with he | ⟨hk,he⟩
  · exact .inl he
  · exact .inr ⟨hk,by simp [he]⟩)
 unfold word;simp only
 rw [hs,hw,List.length_take,List.length_drop,show i+min (j-i) (s.length-i)=j by omega]
end Src
structure Sp where
 mem:Mem
 lo:Int
 to:Int
 here:Int
 deriving DecidableEq
namespace Sp
def Ok (s:Sp):Prop:=0≤s.lo∧s.lo≤s.here∧s.here≤s.to∧s.to≤s.mem.size
def newCode (m:Mem) (lo to:Int):Int:=if lo<0∨to<lo∨m.size<to then -256 else 0
def allot (s:Sp) (n:Int):Sp × Int:=if n > s.to-s.here∨n<s.lo-s.here then (s,-8) else ({ s with here:=s.here+n },0)
def put (s:Sp) (n:Int) (r:Mem × Int):Sp × Int :=
 if n≤s.to-s.here then (if r.2≠0 then ({ s with mem:=r.1 },r.2) else allot { s with mem:=r.1 } n) else s.allot n
def comma (s:Sp) (n:Int):Sp × Int:=s.put 8 (s.mem.setCell s.here n)
def char (s:Sp) (n:Int):Sp × Int:=s.put 1 (s.mem.setByte s.here n)
def chars (s:Sp) (t:List UInt8):Sp × Int:=s.put t.length (s.mem.setText s.here t)
def back (s:Sp) (h:Int):Sp × Int:=if h<s.lo∨s.here<h then (s,-256) else ({ s with here:=h },0)
def alignN:Nat→Sp→Sp × Int
 | 0,s=>(s,0)
 | k+1,s=>if s.here % 8=0 then (s,0) else if (s.char 0).2≠0 then s.char 0 else alignN k (s.char 0).1
def align (s:Sp):Sp × Int:=alignN 8 s
theorem allot_ok {s:Sp} (h:s.Ok) (n:Int):(s.allot n).1.Ok:=by
 unfold allot;split
 · exact h
 · obtain ⟨h1,h2,h3,h4⟩:=h
   refine ⟨h1,?_,?_,h4⟩ <;> simp only <;> omega
theorem allot_size (s:Sp) (n:Int):(s.allot n).1.mem=s.mem:=by unfold allot;split <;> rfl
theorem put_ok {s:Sp} (h:s.Ok) (n:Int) {r:Mem × Int} (hr:r.1.size=s.mem.size):(s.put n r).1.Ok:=by
 have h':Ok { s with mem:=r.1 }:=⟨h.1,h.2.1,h.2.2.1,by show s.to≤r.1.size;rw [hr];exact h.2.2.2⟩
 unfold put;split
 · split
   · exact h'
   · exact allot_ok h' n
 · exact allot_ok h n
theorem put_size (s:Sp) (n:Int) {r:Mem × Int} (hr:r.1.size=s.mem.size):(s.put n r).1.mem.size=s.mem.size:=by
 unfold put;split
 · split
   · exact hr
   · rw [allot_size];exact hr
 · rw [allot_size]
theorem char_ok {s:Sp} (h:s.Ok) (n:Int):(s.char n).1.Ok:=put_ok h _ (Mem.setByte_size _ _ _)
theorem comma_size (s:Sp) (n:Int):(s.comma n).1.mem.size=s.mem.size:=put_size _ _ (Mem.setCell_size _ _ _)
theorem char_size (s:Sp) (n:Int):(s.char n).1.mem.size=s.mem.size:=put_size _ _ (Mem.setByte_size _ _ _)
theorem chars_size (s:Sp) (t:List UInt8):(s.chars t).1.mem.size=s.mem.size:=put_size _ _ (Mem.setText_size _ _ _)
theorem back_size (s:Sp) (n:Int):(s.back n).1.mem=s.mem:=by unfold back;split <;> rfl
theorem alignN_ok (k:Nat) {s:Sp} (h:s.Ok):(alignN k s).1.Ok:=by
 induction k generalizing s with
 | zero=>exact h
 | succ k ih =>
  unfold alignN;split
  · exact h
  · split
    · exact char_ok h 0
    · exact ih (char_ok h 0)
theorem align_ok {s:Sp} (h:s.Ok):s.align.1.Ok:=alignN_ok 8 h
theorem char_here {s:Sp} (n:Int) (h:(s.char n).2=0):(s.char n).1.here=s.here+1:=by
 unfold char put at *;split at h
 · rename_i h1
   rw [if_pos h1];split at h
   · rename_i h2;exact absurd h h2
   · rename_i h2
     rw [if_neg h2];unfold allot at *;split at h
     · simp at h
     · rename_i h3;rw [if_neg h3]
 · rename_i h1
   rw [if_neg h1];unfold allot at *;split at h
   · simp at h
   · rename_i h3;rw [if_neg h3]
theorem alignN_enough (k:Nat) (s:Sp) (h:(8-s.here % 8) % 8≤k) (j:Nat) (hj:k≤j):alignN j s=alignN k s:=by
 induction k generalizing s j with
 | zero =>
  have h0:s.here % 8=0:=by omega
  cases j with
  | zero=>rfl
  | succ j=>unfold alignN;rw [if_pos h0]
 | succ k ih =>
  cases j with
  | zero=>omega
  | succ j =>
   unfold alignN;by_cases h0:s.here % 8=0
   · rw [if_pos h0,if_pos h0]
   · rw [if_neg h0,if_neg h0]
     by_cases he:(s.char 0).2≠0
     · rw [if_pos he,if_pos he]
     · rw [if_neg he,if_neg he]
       have:=char_here (s:=s) 0 (by simpa using he)
       exact ih _ (by omega) j (by omega)
theorem align_step (s:Sp) (h:s.here % 8≠0) (he:(s.char 0).2=0):s.align=(s.char 0).1.align:=by
 unfold align;rw [show alignN 8 s=alignN 7 (s.char 0).1 by rw [alignN,if_neg h,if_neg (by simpa using he)]]
 have:=char_here (s:=s) 0 he;exact (alignN_enough 7 _ (by omega) 8 (by omega)).symm
end Sp
structure Ent where
 sel:Int
 xt:Int
 cls:Int
 deriving DecidableEq
namespace Tab
def slots (m:Mem) (t:Int):Int :=
 if (m.cell t).2≠0∨(m.cell t).1<1∨1024<(m.cell t).1 then 0
 else if (m.text t ((2+(m.cell t).1*3)*8)).2≠0 then 0 else (m.cell t).1
def pos (t i:Int):Int:=t+(2+i*3)*8
def read (m:Mem) (t i:Int):Ent:=⟨(m.cell (pos t i)).1,(m.cell (pos t i+8)).1,(m.cell (pos t i+16)).1⟩
def home (sel n:Int):Int:=(sel % 4294967296*2654435761 % 4294967296) % n
def probeN (m:Mem) (t sel n:Int):Nat→Int→Int × Int
 | 0,_=>(-1,n)
 | k+1,i =>
  if (read m t ((home sel n+i) % n)).sel=sel∨(read m t ((home sel n+i) % n)).sel=0 then ((home sel n+i) % n,i+1)
  else probeN m t sel n k (i+1)
def probe (m:Mem) (t sel:Int):Int × Int:=probeN m t sel (slots m t) (slots m t).toNat 0
def get (m:Mem) (t sel:Int):Ent × Int × Bool :=
 if (probe m t sel).1<0∨sel<1 then (⟨0,0,0⟩,(probe m t sel).2,false)
 else if (read m t (probe m t sel).1).sel≠sel then (⟨0,0,0⟩,(probe m t sel).2,false)
 else (read m t (probe m t sel).1,(probe m t sel).2,true)
theorem slots_bd (m:Mem) (t:Int):0≤slots m t∧slots m t≤1024:=by
 unfold slots;split
 · omega
 · split <;> omega
theorem slots_in (m:Mem) (t:Int) (h:slots m t≠0):0≤t∧t % 8=0∧t+(2+slots m t*3)*8≤m.size:=by
 unfold slots at *;split at h
 · exact absurd rfl h
 · rename_i h1
   rw [if_neg h1];split at h
   · exact absurd rfl h
   · rename_i h2
     rw [if_neg h2];have c:(m.cell t).2=0:=by omega
     unfold Mem.cell at c;split at c
     · rename_i h3
       rw [Mem.at_zero] at h3;unfold Mem.text at h2;split at h2
       · rename_i h4
         rw [Mem.has_iff] at h4;omega
       · simp at h2
     · rename_i h3
       exact absurd c h3
theorem home_bd (sel n:Int) (h:0<n):0≤home sel n∧home sel n<n:=⟨Int.emod_nonneg _ (by omega),Int.emod_lt_of_pos _ h⟩
theorem probeN_bd (m:Mem) (t sel n:Int) (hn:0<n) (k:Nat) (i:Int):(probeN m t sel n k i).1<n ∧ -1≤(probeN m t sel n k i).1:=by
 induction k generalizing i with
 | zero=>unfold probeN;simp only;omega
 | succ k ih =>
  unfold probeN;split
  · simp only
    have h1:=Int.emod_nonneg (home sel n+i) (show n≠0 by omega)
    have h2:=Int.emod_lt_of_pos (home sel n+i) hn;omega
  · exact ih _
theorem probe_bd (m:Mem) (t sel:Int) : -1≤(probe m t sel).1∧((probe m t sel).1<slots m t∨(probe m t sel).1 = -1):=by
 unfold probe;by_cases h:slots m t=0
 · rw [h]
   simp [probeN]
 · have:=slots_bd m t
   have:=probeN_bd m t sel (slots m t) (by omega) (slots m t).toNat 0
   omega
end Tab
structure Cls where
 at_:Int
 parent:Int
 size:Int
 table:Int
 prev:Int
 deriving DecidableEq
namespace Class
def magic:Int:=357694784579
def root (s:Sp):Sp × Int × Int :=
 if s.align.2≠0 then (s.align.1,0,s.align.2)
 else if (s.align.1.comma 0).2≠0 then ((s.align.1.comma 0).1,0,(s.align.1.comma 0).2)
 else ((s.align.1.comma 0).1,s.align.1.here,0)
def read (m:Mem) (a:Int):Cls × Bool :=
 if (m.cell a).2≠0∨(m.cell (a+8)).2≠0∨(m.cell (a+16)).2≠0∨(m.cell (a+24)).2≠0∨(m.cell (a+32)).2≠0 then (⟨0,0,0,0,0⟩,false)
 else (⟨a,(m.cell (a+8)).1,(m.cell (a+16)).1,(m.cell (a+24)).1,(m.cell (a+32)).1⟩,decide ((m.cell a).1=magic))
def walkN (m:Mem):Nat→Int→Int→List Cls
 | 0,_,_=>[]
 | k+1,a,last=>if 0<a∧a<last then (if (read m a).2 then (read m a).1 :: walkN m k (read m a).1.prev a else []) else []
def walk (m:Mem) (a last:Int):List Cls:=walkN m last.toNat a last
def all (m:Mem) (root:Int):List Cls:=if (m.cell root).2=0 then (walk m (m.cell root).1 m.size).reverse else []
def is (m:Mem) (root a:Int):Bool:=(all m root).any fun c=>decide (c.at_=a)
def lookup (m:Mem) (a sel:Int):Ent × Int × Bool :=
 if (read m a).2=false then (⟨0,0,0⟩,0,false) else Tab.get m (read m a).1.table sel
theorem walkN_enough (m:Mem) (k:Nat) (a last:Int) (h:last.toNat≤k) (j:Nat) (hj:last.toNat≤j):walkN m k a last=walkN m j a last:=by
 induction k generalizing a last j with
 | zero =>
  cases j with
  | zero=>rfl
  | succ j =>
   rw [walkN,walkN,if_neg (by omega)]
 | succ k ih =>
  cases j with
  | zero=>rw [walkN,walkN,if_neg (by omega)]
  | succ j =>
   rw [walkN,walkN];by_cases h1:0<a∧a<last
   · rw [if_pos h1,if_pos h1]
     by_cases h2:(read m a).2=true
     · rw [if_pos h2,if_pos h2,ih _ a (by omega) j (by omega)]
     · rw [if_neg h2,if_neg h2]
   · rw [if_neg h1,if_neg h1]
theorem walk_step (m:Mem) (a last:Int) (h:0<a∧a<last) (h2:(read m a).2=true):walk m a last=(read m a).1 :: walk m (read m a).1.prev a:=by
 unfold walk;obtain ⟨k,hk⟩:∃ k,last.toNat=k+1:=⟨last.toNat-1,by omega⟩
 rw [hk,walkN,if_pos h,if_pos h2,walkN_enough m k _ a (by omega) a.toNat (Nat.le_refl _)]
theorem walk_end (m:Mem) (a last:Int) (h:¬ (0<a∧a<last)):walk m a last=[]:=by
 unfold walk
 cases last.toNat with
 | zero=>rfl
 | succ k=>rw [walkN,if_neg h]
theorem walk_bad (m:Mem) (a last:Int) (h2:(read m a).2=false):walk m a last=[]:=by
 unfold walk
 cases last.toNat with
 | zero=>rfl
 | succ k =>
  rw [walkN];split
  · rw [h2];rfl
  · rfl
theorem walk_len (m:Mem) (a last:Int):(walk m a last).length≤last.toNat:=by
 unfold walk;generalize last.toNat=k
 induction k generalizing a last with
 | zero=>simp [walkN]
 | succ k ih =>
  rw [walkN];split
  · split
    · have:=ih (read m a).1.prev a;simp;omega
    · simp
  · simp
theorem all_len (m:Mem) (root:Int):(all m root).length≤m.size:=by
 unfold all;split
 · have:=walk_len m (m.cell root).1 m.size
   simp only [List.length_reverse]
   omega
 · simp
end Class
def lowB (c:UInt8):UInt8:=if 65≤c.toNat∧c.toNat≤90 then UInt8.ofNat (c.toNat+32) else c
def lower (l:List UInt8):List UInt8:=l.map lowB
structure Wd where
 at_:Int
 xt:Int
 flags:Int
 name:List UInt8
 deriving DecidableEq
def Wd.none:Wd:=⟨0,0,0,[]⟩
namespace Sp
def setCellAt (x:Sp) (a n:Int):Sp × Int:=({ x with mem:=(x.mem.setCell a n).1 },(x.mem.setCell a n).2)
def andThen (r:Sp × Int) (f:Sp→Sp × Int):Sp × Int:=if r.2≠0 then r else f r.1
def list (x:Sp):Sp × Int × Int:=if x.align.2≠0 then (x.align.1,0,x.align.2) else if (x.align.1.comma 0).2≠0 then ((x.align.1.comma 0).1,0,(x.align.1.comma 0).2) else ((x.align.1.comma 0).1,x.align.1.here,0)
def cr0 (x:Sp) (list:Int):Sp × Int:=if (x.mem.cell list).2=0 then x.align else (x,(x.mem.cell list).2)
def cr1 (x:Sp) (list:Int):Sp × Int:=andThen (cr0 x list) fun y=>y.comma (x.mem.cell list).1
def cr2 (x:Sp) (list:Int) (name:List UInt8) (flags:Int):Sp × Int:=andThen (cr1 x list) fun y=>y.comma (name.length+flags*256)
def cr3 (x:Sp) (list:Int) (name:List UInt8) (flags:Int):Sp × Int:=andThen (cr2 x list name flags) fun y=>y.chars (lower name)
def cr4 (x:Sp) (list:Int) (name:List UInt8) (flags:Int):Sp × Int:=andThen (cr3 x list name flags) fun y=>y.align
def cr5 (x:Sp) (list:Int) (name:List UInt8) (flags code:Int):Sp × Int:=andThen (cr4 x list name flags) fun y=>y.comma code
def cr6 (x:Sp) (list:Int) (name:List UInt8) (flags code:Int):Sp × Int:=andThen (cr5 x list name flags code) fun y=>y.setCellAt list (cr0 x list).1.here
def create (x:Sp) (list:Int) (name:List UInt8) (flags code:Int):Sp × Wd × Int :=
 if name=[]∨31<name.length then (x,Wd.none,-16) else
 if (cr6 x list name flags code).2≠0 then (((cr6 x list name flags code).1.back x.here).1,Wd.none,(cr6 x list name flags code).2)
 else ((cr6 x list name flags code).1,⟨(cr0 x list).1.here,(cr4 x list name flags).1.here,flags,lower name⟩,0)
end Sp
namespace Mem
def pad8 (n:Int):Int:=(n+7) / 8*8
def readWd (m:Mem) (a:Int):Option (Wd × Int) :=
 let info:=(m.cell (a+8)).1
 if (m.cell a).2≠0∨(m.cell (a+8)).2≠0∨31<info % 256∨info<0 then none
 else if (m.cell (a+16+pad8 (info % 256))).2≠0∨(m.text (a+16) (info % 256)).2≠0 then none
 else some (⟨a,a+16+pad8 (info % 256),info / 256,(m.text (a+16) (info % 256)).1⟩,(m.cell a).1)
def wordsN (m:Mem):Nat→Int→Int→List Wd
 | 0,_,_=>[]
 | k+1,last,a=>if 0<a∧a<last then (match m.readWd a with | some (w,l)=>w :: wordsN m k a l | none=>[]) else []
def words (m:Mem) (list:Int):List Wd:=if (m.cell list).2≠0 then [] else wordsN m m.size m.size (m.cell list).1
def findIn (l:List Wd) (low:List UInt8):Option Wd:=l.find? fun w=>decide (w.name=low) && decide (w.flags % 4<2)
def find (m:Mem) (name:List UInt8):List Int→Option Wd
 | []=>none
 | a :: r=>match findIn (m.words a) (lower name) with
  | some w=>some w
  | none=>find m name r
end Mem
namespace Mem
theorem wordsN_enough (m:Mem) (k:Nat):∀ (last a:Int) (j:Nat),last≤k→k≤j→wordsN m j last a=wordsN m k last a:=by
 induction k with
 | zero =>
  intro last a j h _
  cases j with
  | zero=>rfl
  | succ j=>rw [wordsN,wordsN,if_neg (by omega)]
 | succ k ih =>
  intro last a j h hj
  cases j with
  | zero=>omega
  | succ j =>
   rw [wordsN,wordsN];by_cases hc:0<a∧a<last
   · rw [if_pos hc,if_pos hc]
     cases m.readWd a with
     | none=>rfl
     | some p=>simp only;rw [ih a p.2 j (by omega) (by omega)]
   · rw [if_neg hc,if_neg hc]
def wordsL (m:Mem) (last a:Int):List Wd:=wordsN m last.toNat last a
theorem words_is (m:Mem) (list:Int):m.words list=if (m.cell list).2≠0 then [] else wordsL m m.size (m.cell list).1:=by
 unfold words wordsL;rw [Int.toNat_natCast]
theorem wordsL_end (m:Mem) (last a:Int) (h:¬ (0<a∧a<last)):wordsL m last a=[]:=by
 unfold wordsL
 cases last.toNat with
 | zero=>rfl
 | succ k=>rw [wordsN,if_neg h]
theorem wordsL_none (m:Mem) (last a:Int) (h:m.readWd a=none):wordsL m last a=[]:=by
 unfold wordsL
 cases last.toNat with
 | zero=>rfl
 | succ k =>
  rw [wordsN];split
  · rw [h]
  · rfl
theorem wordsL_some (m:Mem) (last a:Int) (h:0<a∧a<last) {d:Wd} {l:Int} (e:m.readWd a=some (d,l)):wordsL m last a=d :: wordsL m a l:=by
 unfold wordsL;obtain ⟨k,hk⟩:∃ k,last.toNat=k+1:=⟨last.toNat-1,by omega⟩
 rw [hk,wordsN,if_pos h,e];simp only
 rw [wordsN_enough m a.toNat a l k (by omega) (by omega)]
theorem readWd_link {m:Mem} {a:Int} {d:Wd} {l:Int} (e:m.readWd a=some (d,l)):l=(m.cell a).1:=by
 unfold readWd at e;simp only at e
 split at e
 · cases e
 · split at e
   · cases e
   · injection e with e;injection e with _ e;exact e.symm
theorem wordsN_len (m:Mem) (k:Nat):∀ last a,(wordsN m k last a).length≤k:=by
 induction k with
 | zero=>intro _ _;exact Nat.le_refl _
 | succ k ih =>
  intro last a;rw [wordsN];split
  · cases m.readWd a with
    | none=>simp
    | some p=>simp only [List.length_cons];have:=ih a p.2;omega
  · simp
theorem words_len (m:Mem) (list:Int):(m.words list).length≤m.size:=by
 unfold words;split
 · simp
 · exact wordsN_len _ _ _ _
theorem wordsL_len (m:Mem) (last a:Int):(wordsL m last a).length≤last.toNat:=wordsN_len _ _ _ _
end Mem
namespace Sp
theorem andThen_ok {r:Sp × Int} (f:Sp→Sp × Int) (h:r.2=0):andThen r f=f r.1:=by unfold andThen;rw [if_neg (by simpa using h)]
theorem andThen_bad {r:Sp × Int} (f:Sp→Sp × Int) (h:r.2≠0):andThen r f=r:=by unfold andThen;rw [if_pos h]
theorem create_steps (x:Sp) (l:Int) (name:List UInt8) (fl cd:Int) (hn:¬ (name=[]∨31<name.length)):∃ q0 q1 q2 q3 q4 q5 q6:Sp × Int,
 (q0=if (x.mem.cell l).2=0 then x.align else (x,(x.mem.cell l).2)) ∧
 (q0.2=0→q1=q0.1.comma (x.mem.cell l).1)∧(q1.2=0→q2=q1.1.comma (name.length+fl*256))∧(q2.2=0→q3=q2.1.chars (lower name))∧(q3.2=0→q4=q3.1.align)∧(q4.2=0→q5=q4.1.comma cd)∧(q5.2=0→q6=q5.1.setCellAt l q0.1.here) ∧
 (q0.2≠0→x.create l name fl cd=((q0.1.back x.here).1,Wd.none,q0.2))∧(q1.2≠0→x.create l name fl cd=((q1.1.back x.here).1,Wd.none,q1.2))∧(q2.2≠0→x.create l name fl cd=((q2.1.back x.here).1,Wd.none,q2.2)) ∧
 (q3.2≠0→x.create l name fl cd=((q3.1.back x.here).1,Wd.none,q3.2))∧(q4.2≠0→x.create l name fl cd=((q4.1.back x.here).1,Wd.none,q4.2))∧(q5.2≠0→x.create l name fl cd=((q5.1.back x.here).1,Wd.none,q5.2)) ∧
 (q6.2≠0→x.create l name fl cd=((q6.1.back x.here).1,Wd.none,q6.2))∧(q6.2=0→x.create l name fl cd=(q6.1,⟨q0.1.here,q4.1.here,fl,lower name⟩,0)):=by
 have h6:(cr6 x l name fl cd).2≠0→x.create l name fl cd=(((cr6 x l name fl cd).1.back x.here).1,Wd.none,(cr6 x l name fl cd).2):=fun h=>by unfold create;rw [if_neg hn,if_pos h]
 have b5:(cr5 x l name fl cd).2≠0→cr6 x l name fl cd=cr5 x l name fl cd:=fun h=>andThen_bad _ h
 have b4:(cr4 x l name fl).2≠0→cr5 x l name fl cd=cr4 x l name fl:=fun h=>andThen_bad _ h
 have b3:(cr3 x l name fl).2≠0→cr4 x l name fl=cr3 x l name fl:=fun h=>andThen_bad _ h
 have b2:(cr2 x l name fl).2≠0→cr3 x l name fl=cr2 x l name fl:=fun h=>andThen_bad _ h
 have b1:(cr1 x l).2≠0→cr2 x l name fl=cr1 x l:=fun h=>andThen_bad _ h
 have b0:(cr0 x l).2≠0→cr1 x l=cr0 x l:=fun h=>andThen_bad _ h
 have g5:(cr5 x l name fl cd).2≠0→x.create l name fl cd=(((cr5 x l name fl cd).1.back x.here).1,Wd.none,(cr5 x l name fl cd).2):=fun h=>by rw [h6 (by rw [b5 h];exact h),b5 h]
 have g4:(cr4 x l name fl).2≠0→x.create l name fl cd=(((cr4 x l name fl).1.back x.here).1,Wd.none,(cr4 x l name fl).2):=fun h=>by rw [g5 (by rw [b4 h];exact h),b4 h]
 have g3:(cr3 x l name fl).2≠0→x.create l name fl cd=(((cr3 x l name fl).1.back x.here).1,Wd.none,(cr3 x l name fl).2):=fun h=>by rw [g4 (by rw [b3 h];exact h),b3 h]
 have g2:(cr2 x l name fl).2≠0→x.create l name fl cd=(((cr2 x l name fl).1.back x.here).1,Wd.none,(cr2 x l name fl).2):=fun h=>by rw [g3 (by rw [b2 h];exact h),b2 h]
 have g1:(cr1 x l).2≠0→x.create l name fl cd=(((cr1 x l).1.back x.here).1,Wd.none,(cr1 x l).2):=fun h=>by rw [g2 (by rw [b1 h];exact h),b1 h]
 have g0:(cr0 x l).2≠0→x.create l name fl cd=(((cr0 x l).1.back x.here).1,Wd.none,(cr0 x l).2):=fun h=>by rw [g1 (by rw [b0 h];exact h),b0 h]
 refine ⟨cr0 x l,cr1 x l,cr2 x l name fl,cr3 x l name fl,cr4 x l name fl,cr5 x l name fl cd,cr6 x l name fl cd,rfl,fun h=>andThen_ok _ h,fun h=>andThen_ok _ h,fun h=>andThen_ok _ h,fun h=>andThen_ok _ h,fun h=>andThen_ok _ h,fun h=>andThen_ok _ h,g0,g1,g2,g3,g4,g5,h6,fun h=>?_⟩
 unfold create;rw [if_neg hn,if_neg (by simpa using h)]
end Sp
namespace Num
def right (b:Int):Bool:=decide (2≤b) && decide (b≤36)
def fig (d:Nat):UInt8:=UInt8.ofNat (if d<10 then 48+d else 55+d)
theorem fig_is (d:Nat) (h:d<36):∀ q,(⟨#[48,49,50,51,52,53,54,55,56,57,65,66,67,68,69,70,71,72,73,74,75,76,77,78,79,80,81,82,83,84,85,86,87,88,89,90]⟩:ByteArray)[d]'q=fig d:=by
 have:∀ i:Fin 36,(#[48,49,50,51,52,53,54,55,56,57,65,66,67,68,69,70,71,72,73,74,75,76,77,78,79,80,81,82,83,84,85,86,87,88,89,90]:Array UInt8)[i.1]'i.2=fig i.1:=by decide +kernel
 exact fun _=>this ⟨d,h⟩
def figsN (b:Nat):Nat→Nat→List UInt8
 | 0,_=>[]
 | k+1,n=>fig (n % b) :: (if n / b=0 then [] else figsN b k (n / b))
def unsigned (n b:Int):List UInt8:=if right b then (figsN b.toNat 64 n.toNat).reverse else []
def show_ (n b:Int):List UInt8:=if n<0∧right b=true then 45 :: unsigned (-n) b else unsigned (n % 18446744073709551616) b
end Num
structure Stk where
 from_:Int
 most:Int
 depth:Int
 over:Int
 under:Int
 deriving DecidableEq
namespace Stk
def Ok (s:Stk):Prop:=0≤s.from_∧s.from_≤4194304∧0≤s.depth∧s.depth≤s.most∧s.most≤1048576∧s.under≠0∧s.over≠0
def place (s:Stk) (i:Int):Int:=s.from_+(s.depth-1-i)*8
def pushN (m:Mem) (s:Stk):List Int→Mem × Stk
 | []=>(m,s)
 | n :: l=>pushN (m.setCell (place { s with depth:=s.depth+1 } 0) n).1 { s with depth:=s.depth+1 } l
def push (m:Mem) (s:Stk) (l:List Int):Mem × Stk × Int :=
 if s.most-s.depth<l.length then (m,s,s.over) else ((pushN m s l).1,(pushN m s l).2,0)
def at_ (m:Mem) (s:Stk) (i:Int):Int × Int:=if i<0 then (0,-256) else if s.depth≤i then (0,s.under) else m.cell (s.place i)
def pop (m:Mem) (s:Stk):Stk × Int × Int:=(if (at_ m s 0).2=0 then { s with depth:=s.depth-1 } else s,at_ m s 0)
def drop (s:Stk) (n:Int):Stk × Int:=if n<0 then (s,-256) else if s.most<n then (s,s.over) else ({ s with depth:=n },0)
def all (m:Mem) (s:Stk):List Int:=(List.range s.depth.toNat).map fun (i:Nat)=>(at_ m s (s.depth-1-i)).1
theorem pushN_depth (m:Mem) (s:Stk) (l:List Int):(pushN m s l).2={ s with depth:=s.depth+l.length }:=by
 induction l generalizing m s with
 | nil=>simp [pushN]
 | cons n l ih =>
  rw [pushN,ih];simp only [List.length_cons]
  congr 1
  omega
theorem pushN_size (m:Mem) (s:Stk) (l:List Int):(pushN m s l).1.size=m.size:=by
 induction l generalizing m s with
 | nil=>rfl
 | cons n l ih=>rw [pushN,ih,Mem.setCell_size]
theorem pushN_snoc (m:Mem) (s:Stk) (l:List Int) (n:Int):pushN m s (l++[n]) =
 (((pushN m s l).1.setCell (place { (pushN m s l).2 with depth:=(pushN m s l).2.depth+1 } 0) n).1,{ (pushN m s l).2 with depth:=(pushN m s l).2.depth+1 }):=by
 induction l generalizing m s with
 | nil=>rfl
 | cons a l ih=>rw [List.cons_append,pushN,ih,pushN]
end Stk
structure Blk where
 at_:Int
 size:Int
 used:Bool
 deriving DecidableEq
namespace Heap
def put (m:Mem) (b:Blk):Mem × Int:=m.setCell b.at_ (if b.used then b.size+1 else b.size)
def blk (a n:Int):Blk:=⟨a,n-n % 2,decide (n % 2=1)⟩
def blocksN (m:Mem) (to:Int):Nat→Int→Option (List Blk)
 | 0,_=>some []
 | k+1,a =>
  if a<to then
   (if (m.cell a).2≠0∨(blk a (m.cell a).1).size<16∨(blk a (m.cell a).1).size % 8≠0∨to-a<(blk a (m.cell a).1).size then none
    else (blocksN m to k (a+(blk a (m.cell a).1).size)).map (blk a (m.cell a).1 :: ·))
  else some []
def blocks (m:Mem) (lo to:Int):Option (List Blk):=blocksN m to (to-lo).toNat lo
def need (n:Int):Int:=if 16<(n+15) / 8*8 then (n+15) / 8*8 else 16
def pick (size:Int):List Blk→Option Blk
 | []=>none
 | b :: l=>if b.used=true∨b.size<size then pick size l else some b
def give (m:Mem) (b:Blk) (size:Int):Mem × Int × Int :=
 if 16≤b.size-size then ((put (put m ⟨b.at_+size,b.size-size,false⟩).1 ⟨b.at_,size,true⟩).1,b.at_+8,(put (put m ⟨b.at_+size,b.size-size,false⟩).1 ⟨b.at_,size,true⟩).2)
 else ((put m ⟨b.at_,b.size,true⟩).1,b.at_+8,(put m ⟨b.at_,b.size,true⟩).2)
def alloc (m:Mem) (lo to n:Int):Mem × Int × Int :=
 if n<0∨1048576<n then (m,0,-59)
 else match blocks m lo to with
  | none=>(m,0,-2052)
  | some l=>match pick (need n) l with
   | none=>(m,0,-59)
   | some b=>give m b (need n)
def findN (a:Int):Nat→List Blk→Int
 | _,[] => -1
 | i,b :: l=>if b.used=true∧b.at_+8=a then (i:Int) else findN a (i+1) l
def find (l:List Blk) (a:Int):Int:=findN a 0 l
def join (l:List Blk) (i:Nat):Blk :=
 let b:=l.getD i ⟨0,0,false⟩
 let n:=l.getD (i+1) ⟨0,0,true⟩
 let p:=l.getD (i-1) ⟨0,0,true⟩
 let s:=if i+1<l.length∧n.used=false then b.size+n.size else b.size
 if 0<i∧p.used=false then ⟨p.at_,s+p.size,false⟩ else ⟨b.at_,s,false⟩
def free (m:Mem) (lo to a:Int):Mem × Int :=
 match blocks m lo to with
 | none=>(m,-2052)
 | some l=>if find l a<0 then (m,-60) else put m (join l (find l a).toNat)
end Heap
namespace Obj
def size (m:Mem) (c:Int):Int × Int :=
 if (Class.read m c).2=false then (0,-2048)
 else if (Class.read m c).1.size<8∨1048576<(Class.read m c).1.size then (0,-256)
 else ((Class.read m c).1.size,0)
def make (m:Mem) (a c:Int):Mem × Int :=
 if (size m c).2≠0 then (m,(size m c).2)
 else if (m.cell a).2≠0 then (m,(m.cell a).2)
 else if (m.setText a (List.replicate (size m c).1.toNat 0)).2≠0 then m.setText a (List.replicate (size m c).1.toNat 0)
 else (m.setText a (List.replicate (size m c).1.toNat 0)).1.setCell a c
def heap (m:Mem) (lo to c:Int):Mem × Int × Int :=
 if (size m c).2≠0 then (m,0,(size m c).2)
 else if (Heap.alloc m lo to (size m c).1).2.2≠0 then ((Heap.alloc m lo to (size m c).1).1,0,(Heap.alloc m lo to (size m c).1).2.2)
 else ((make (Heap.alloc m lo to (size m c).1).1 (Heap.alloc m lo to (size m c).1).2.1 c).1,(Heap.alloc m lo to (size m c).1).2.1,(make (Heap.alloc m lo to (size m c).1).1 (Heap.alloc m lo to (size m c).1).2.1 c).2)
def cls (m:Mem) (root a:Int):Int × Int :=
 if (m.cell a).2≠0∨Class.is m root (m.cell a).1=false then (0,-2048) else ((m.cell a).1,0)
def send (m:Mem) (root a sel:Int):Int × Int × Int :=
 if (cls m root a).2≠0 then (0,0,(cls m root a).2)
 else if (Class.lookup m (cls m root a).1 sel).2.2=false then (0,(Class.lookup m (cls m root a).1 sel).2.1,-2049)
 else ((Class.lookup m (cls m root a).1 sel).1.xt,(Class.lookup m (cls m root a).1 sel).2.1,0)
end Obj
namespace Mem
theorem cell_at (m:Mem) (a:Int) (h:m.at_ a=0):m.cell a=(s64 (m.get a.toNat 8),0):=by
 unfold cell;rw [if_pos h]
theorem at_size {m m':Mem} (h:m'.size=m.size) (a:Int):m'.at_ a=m.at_ a:=by
 unfold at_ has;rw [h]
theorem setCell_at (m:Mem) (a n b:Int):(m.setCell a n).1.at_ b=m.at_ b:=at_size (m.setCell_size a n) b
theorem cell_set_same (m:Mem) (a n:Int) (h:m.at_ a=0) (h0 : -9223372036854775808≤n) (h1:n≤9223372036854775807):(m.setCell a n).1.cell a=(n,0):=by
 rw [cell_at _ _ (by rw [setCell_at];exact h)]
 unfold setCell;rw [if_pos h];simp only
 rw [get_put_same,Nat.mod_eq_of_lt (by have:=u64_lt n;omega),s64_u64 n h0 h1]
theorem setCell_code (m:Mem) (a n:Int):(m.setCell a n).2=m.at_ a:=by
 unfold setCell;split
 · rename_i h;exact h.symm
 · rfl
end Mem
namespace Tab
end Tab
namespace Heap
theorem need_bd (n:Int) (h:0≤n):16≤need n∧n+8≤need n∧need n % 8=0∧need n≤n+16:=by
 unfold need;split <;> omega
end Heap
namespace Heap
theorem findN_law (a:Int) (l:List Blk) (i:Nat):(findN a i l = -1∧∀ b ∈ l,¬ (b.used=true∧b.at_+8=a))∨∃ p b r,l=p++b :: r∧findN a i l=(i:Int)+p.length∧b.used=true∧b.at_+8=a:=by
 induction l generalizing i with
 | nil=>exact .inl ⟨rfl,fun b hb=>absurd hb (by simp)⟩
 | cons c l ih =>
  rw [findN];by_cases h:c.used=true∧c.at_+8=a
  · rw [if_pos h]
    exact .inr ⟨[],c,l,rfl,by simp,h.1,h.2⟩
  · rw [if_neg h]
    rcases ih (i+1) with ⟨h1,h2⟩ | ⟨p,b,r,e,h1,h2,h3⟩
    · refine .inl ⟨h1,fun b hb=>?_⟩
      rcases List.mem_cons.1 hb with rfl | hb
      · exact h
      · exact h2 b hb
    · exact .inr ⟨c :: p,b,r,by rw [e];rfl,by rw [h1,List.length_cons];omega,h2,h3⟩
end Heap
end Go.Proofs.Shed
