/- part 1 -/
import Derived.Test.YtnadlnmclameiaaGreatDoorTS00
import Derived.Laws.BitsAllLaws
import Derived.Test.YtnadlnmclameiaaGreatDoorProg
set_option maxRecDepth 100000
set_option maxHeartbeats 8000000
set_option linter.all false
namespace Go.Proofs.YtnadlnmclameiaaGreatDoor
section
def jh:Nat->Nat->List UInt8
 | 0,n=>[UInt8.ofNat n]
 | k+1,n=>if n<128 then [UInt8.ofNat n] else UInt8.ofNat (n % 128+128) :: jh k (n / 128)
def putU (n:Nat):List UInt8:=jh 9 n
theorem zid (k n:Nat):1<=(jh k n).length/\(jh k n).length<=k+1:=by
 induction k generalizing n with
 | zero=>simp[jh]
 | succ k ih=>
  unfold jh;split
  ·simp
  ·have:=ih (n / 128);simp;omega
theorem zq (n:Nat):1<=(putU n).length/\(putU n).length<=10:=zid 9 n
theorem zc1 {k n:Nat} (h:n<128):jh k n=[UInt8.ofNat n]:=by
 cases k <;> simp[jh,h]
theorem zdu {k n:Nat} (h : ¬ n<128):jh (k+1) n=UInt8.ofNat (n % 128+128) :: jh k (n / 128):=by
 simp[jh,h]
open Go
theorem zxx (n:Nat):bits .or .u8 (((n % 256:Nat):Int)) 128=((n % 128+128:Nat):Int):=by
 have h:=u8_or_nat (n % 256) 128 (by omega) (by omega);rw[show ((128:Nat):Int)=128 from rfl]at h;rw[h];congr 1
 have h2:n % 256=128*(n % 256 / 128)+n % 256 % 128:=by omega
 have key : ∀ m,m<256->m ||| 128=m % 128+128:=by decide +kernel
 rw[key _ (by omega)];omega
def zig (n:Int):Nat:=if 0<=n then (2*n).toNat else (-2*n-1).toNat
def putI (n:Int):List UInt8:=putU (zig n)
def putT (s:List UInt8):List UInt8:=putU s.length++s
def le32 (n:Nat):List UInt8:=[UInt8.ofNat n,UInt8.ofNat (n / 256),UInt8.ofNat (n / 65536),UInt8.ofNat (n / 16777216)]
theorem zpb (n:Int) (h1 : -9223372036854775808<=n) (h2:n<=9223372036854775807):zig n<=18446744073709551615:=by
 unfold zig;split <;> omega
theorem zut (x:Nat) (h:x<18446744073709551616):x ^^^ 18446744073709551615=18446744073709551615-x:=by
 have e:(BitVec.ofNat 64 x ^^^ BitVec.allOnes 64).toNat=(~~~ BitVec.ofNat 64 x).toNat:=by rw[BitVec.xor_allOnes]
 rw[BitVec.toNat_xor,BitVec.toNat_not,BitVec.toNat_ofNat,BitVec.toNat_allOnes,Nat.mod_eq_of_lt (by omega)]at e;simpa using e
theorem zrr (n:Int) (h1 : -9223372036854775808<=n) (h2:n<=9223372036854775807) :
  bits .xor .u64 (IntKind.u64.wrap (IntKind.u64.wrap n*2)) (IntKind.u64.wrap (n / 9223372036854775808))=((zig n:Nat):Int):=by
 rw[IntKind.wrap_u64,IntKind.wrap_u64,IntKind.wrap_u64];unfold zig;by_cases h:0<=n
 ·rw[if_pos h];rw[show n % 18446744073709551616*2 % 18446744073709551616=(((2*n).toNat:Nat):Int) from by omega,show n / 9223372036854775808 % 18446744073709551616=((0:Nat):Int) from by omega];rw[bits_xor_u64_nat _ _ (by omega) (by omega),Nat.xor_zero]
 ·rw[if_neg h];rw[show n % 18446744073709551616*2 % 18446744073709551616=(((2*n+18446744073709551616).toNat:Nat):Int) from by omega,show n / 9223372036854775808 % 18446744073709551616=((18446744073709551615:Nat):Int) from by omega];rw[bits_xor_u64_nat _ _ (by omega) (by omega),zut _ (by omega)];omega
def y9:Nat->Nat->Nat->List UInt8->Nat × Nat × Nat
 | 0,_,_,_=>(0,0,11)
 | _+1,_,_,[]=>(0,0,10)
 | f+1,i,acc,c :: r=>
  if 128<=c.toNat then y9 f (i+1) (acc+c.toNat % 128*128 ^ i) r
  else if (0<i/\c.toNat=0)\/(i=9/\1<c.toNat) then (0,0,11)
  else (acc+c.toNat % 128*128 ^ i,i+1,0)
def zi (l:List UInt8):Nat × Nat × Nat:=y9 10 0 0 l
theorem zxi (c:Nat) (hc:c<256):bits .and .u8 (c:Int) 127=((c % 128:Nat):Int):=by
 have h:=u8_and_nat c 127 hc (by omega);rw[show ((127:Nat):Int)=127 from rfl]at h;rw[h];congr 1
 exact Nat.and_two_pow_sub_one_eq_mod c 7
theorem zsn (m k x:Nat) (hm:m<128 ^ k):m ||| (x*128 ^ k)=m+x*128 ^ k:=by
 have e:(128:Nat) ^ k=2 ^ (7*k):=by rw[Nat.pow_mul]
 rw[e]at hm ⊢;rw[Nat.or_comm,Nat.mul_comm,<-Nat.two_pow_add_eq_or_of_lt hm,Nat.add_comm]
theorem zen (k:Nat) (hk:k<=9):128 ^ k<=9223372036854775808:=by
 have h:(128:Nat) ^ k<=128 ^ 9:=Nat.pow_le_pow_right (by omega) hk;exact h
theorem zk7 (m k c:Nat) (hk:k<=8\/(k=9/\c<=1)) (hm:m<128 ^ k) (hc:c<256) :
  bits .or .u64 (m:Int) (IntKind.u64.wrap (IntKind.u64.wrap (bits .and .u8 (c:Int) 127)*2 ^ (7*k)))=((m+c % 128*128 ^ k:Nat):Int):=by
 have hx:c % 128*128 ^ k<18446744073709551616:=by
  rcases hk with hk|⟨rfl,hk⟩
  ·have h1:=zen (k+1) (by omega);have h2:c % 128*128 ^ k<128*128 ^ k:=Nat.mul_lt_mul_of_pos_right (by omega) (Nat.pow_pos (by omega));rw[Nat.pow_succ]at h1;omega
  ·have:c % 128*128 ^ 9<=1*128 ^ 9:=Nat.mul_le_mul_right _ (by omega);omega
 have hm':m<18446744073709551616:=by have:=zen k (by omega);omega
 rw[zxi c hc,IntKind.wrap_u64,IntKind.wrap_u64];rw[show (((c % 128:Nat):Int)) % 18446744073709551616=((c % 128:Nat):Int) from by omega];have e:((c % 128:Nat):Int)*2 ^ (7*k)=((c % 128*128 ^ k:Nat):Int):=by
  rw[show (128:Nat) ^ k=2 ^ (7*k) from by rw[Nat.pow_mul]];push_cast
  rfl
 rw[e,show ((c % 128*128 ^ k:Nat):Int) % 18446744073709551616=((c % 128*128 ^ k:Nat):Int) from by omega];rw[bits_or_u64_nat _ _ hm' hx,zsn _ _ _ hm]
theorem zq5 (m k c:Nat) (hm:m<128 ^ k):m+c % 128*128 ^ k<128 ^ (k+1):=by
 have h2:c % 128*128 ^ k<=127*128 ^ k:=Nat.mul_le_mul_right _ (by omega);rw[Nat.pow_succ];omega
theorem zjo (f i acc:Nat) (l:List UInt8) (hf:f+i=10) (ha:acc<128 ^ i) :
  (y9 f i acc l).1<=18446744073709551615/\(y9 f i acc l).2.1<=10/\(y9 f i acc l).2.1<=i+l.length/\
   ((y9 f i acc l).2.2=0/\i<(y9 f i acc l).2.1\/((y9 f i acc l).2.2=10\/(y9 f i acc l).2.2=11)/\(y9 f i acc l).1=0/\(y9 f i acc l).2.1=0):=by
 induction f generalizing i acc l with
 | zero=>simp[y9]
 | succ f ih=>
  cases l with
  | nil=>simp[y9]
  | cons c r=>
   simp only[y9];have hlt:=zq5 acc i c.toNat ha;split
   ·have:=ih (i+1) _ r (by omega) hlt;refine⟨this.1,this.2.1,by simp only[List.length_cons];omega,?_⟩;rcases this.2.2.2 with h|h
    ·exact .inl ⟨h.1,by omega⟩
    ·exact .inr h
   ·split
    ·simp
    ·rename_i h1 h2
     have hb:acc+c.toNat % 128*128 ^ i<=18446744073709551615:=by
      by_cases hi:i<=8
      ·have:=zen (i+1) (by omega);omega
      ·obtain rfl:i=9:=by omega
       have h3:c.toNat % 128*128 ^ 9<=1*128 ^ 9:=Nat.mul_le_mul_right _ (by omega);omega
     refine⟨hb,by simp;omega,by simp,.inl ⟨rfl,by simp⟩⟩
theorem yh (l:List UInt8) :
  (zi l).1<=18446744073709551615/\(zi l).2.1<=10/\(zi l).2.1<=l.length/\
   ((zi l).2.2=0/\0<(zi l).2.1\/((zi l).2.2=10\/(zi l).2.2=11)/\(zi l).1=0/\(zi l).2.1=0):=by
 have:=zjo 10 0 0 l rfl (by simp);simpa[zi] using this
theorem zk3 (op:BinOp) (x y:Int) : ∃ X:Nat,bits op .u64 x y=(X:Int):=by
 have h:0<=bits op .u64 x y:=by
  unfold bits;rw[IntKind.wrap_u64];omega
 exact⟨_,(Int.toNat_of_nonneg h).symm⟩
def zbl (u:Nat):Int:=if u % 2=0 then ((u / 2:Nat):Int) else -((u / 2:Nat):Int)-1
def zyg (l:List UInt8) (most:Int):List UInt8 × Nat × Nat:=
 if (zi l).2.2≠0 then ([],0,(zi l).2.2)
 else if most<0\/most<((zi l).1:Int) then ([],0,12)
 else if l.length-(zi l).2.1<(zi l).1 then ([],0,10)
 else ((l.drop (zi l).2.1).take (zi l).1,(zi l).2.1+(zi l).1,0)
def u32F:List UInt8->Nat × Nat
 | a :: b :: c :: d :: _=>(a.toNat+b.toNat*256+c.toNat*65536+d.toNat*16777216,0)
 | _=>(0,10)
theorem znk (u:Nat) (h:u<=18446744073709551615) :
  bits .xor .i64 ((u:Int) / 2) (Go.RowKit.wrap64 (-Go.RowKit.wrap64 (bits .and .u64 (u:Int) 1)))=zbl u:=by
 have h1:bits .and .u64 (u:Int) 1=((u % 2:Nat):Int):=by
  have:=bits_and_u64_nat u 1 (by omega) (by omega);rw[show ((1:Nat):Int)=1 from rfl]at this;rw[this];congr 1
  exact Nat.and_two_pow_sub_one_eq_mod u 1
 rw[h1];unfold zbl;have hx : ∀ a b:BitVec 64,bits .xor .i64 a.toInt b.toInt=(a ^^^ b).toInt:=by
  intro a b;show IntKind.i64.wrap (((BitVec.ofInt 64 a.toInt ^^^ BitVec.ofInt 64 b.toInt).toNat:Nat):Int)=_;rw[BitVec.ofInt_toInt,BitVec.ofInt_toInt,IntKind.wrap_i64,BitVec.toInt_eq_toNat_bmod,Int.bmod_def];have:=(a ^^^ b).isLt;simp only[Nat.reducePow]at this;split <;> omega
 have ha:(BitVec.ofNat 64 (u / 2)).toInt=(u:Int) / 2:=by
  rw[BitVec.toInt_eq_toNat_bmod,BitVec.toNat_ofNat,Nat.mod_eq_of_lt (by omega),Int.bmod_def];split <;> omega
 by_cases h2:u % 2=0
 ·rw[if_pos h2,h2];have hb:(0:BitVec 64).toInt=Go.RowKit.wrap64 (-Go.RowKit.wrap64 ((0:Nat):Int)):=by decide +kernel
  rw[<-ha,<-hb,hx,show BitVec.ofNat 64 (u / 2) ^^^ (0:BitVec 64)=BitVec.ofNat 64 (u / 2) from BitVec.xor_zero,ha];omega
 ·rw[if_neg h2,show u % 2=1 from by omega];have hb:(BitVec.allOnes 64).toInt=Go.RowKit.wrap64 (-Go.RowKit.wrap64 ((1:Nat):Int)):=by decide +kernel
  rw[<-ha,<-hb,hx,BitVec.xor_allOnes,BitVec.toInt_not,BitVec.toNat_ofNat,Nat.mod_eq_of_lt (by omega),Int.bmod_def];split <;> omega
theorem zki (m i x:Nat) (hm:m<2 ^ i):m ||| (x*2 ^ i)=m+x*2 ^ i:=by
 rw[Nat.or_comm,Nat.mul_comm,<-Nat.two_pow_add_eq_or_of_lt hm,Nat.add_comm]
theorem zrx (a b c d:Nat) (ha:a<256) (hb:b<256) (hc:c<256) (hd:d<256) :
  bits .or .u32 (bits .or .u32 (bits .or .u32 (a:Int) ((b:Int)*256)) ((c:Int)*65536)) ((d:Int)*16777216)=((a+b*256+c*65536+d*16777216:Nat):Int):=by
 rw[show (b:Int)*256=((b*2 ^ 8:Nat):Int) from by omega,show (c:Int)*65536=((c*2 ^ 16:Nat):Int) from by omega,show (d:Int)*16777216=((d*2 ^ 24:Nat):Int) from by omega];rw[u32_or_nat _ _ (by omega) (by omega),zki a 8 b (by omega),u32_or_nat _ _ (by omega) (by omega),zki _ 16 c (by omega),u32_or_nat _ _ (by omega) (by omega),zki _ 24 d (by omega)]
def poly:Nat:=2197175160
def st (r:Nat):Nat:=(r / 2) ^^^ (if r % 2=1 then poly else 0)
def stN:Nat->Nat->Nat
 | 0,r=>r
 | k+1,r=>st (stN k r)
def zc6 (r:Nat) (c:UInt8):Nat:=stN 8 (r ^^^ c.toNat)
def zbm (r:Nat) (l:List UInt8):Nat:=l.foldl zc6 r
def sumF (l:List UInt8):Nat:=zbm 4294967295 l ^^^ 4294967295
theorem zxv (r:Nat) (h:r<4294967296):st r<4294967296:=by
 unfold st;exact Nat.xor_lt_two_pow (n:=32) (by omega) (by split <;> simp[poly])
theorem za8 (k r:Nat) (h:r<4294967296):stN k r<4294967296:=by
 induction k with
 | zero=>exact h
 | succ k ih=>exact zxv _ ih
theorem zry (r:Nat) (h:r<4294967296):bits .and .u32 (r:Int) 1=((r % 2:Nat):Int):=by
 have:=u32_and_nat r 1 h (by omega);rw[show ((1:Nat):Int)=1 from rfl]at this;rw[this];congr 1
 exact Nat.and_two_pow_sub_one_eq_mod r 1
theorem zh3 (r:Nat) (h:r<4294967296):bits .and .u32 (r:Int) 15=((r % 16:Nat):Int):=by
 have:=u32_and_nat r 15 h (by omega);rw[show ((15:Nat):Int)=15 from rfl]at this;rw[this];congr 1
 exact Nat.and_two_pow_sub_one_eq_mod r 4
theorem zuy (r:Nat) (h:r<4294967296):bits .xor .u32 ((r:Int) / 2) (2197175160*((r % 2:Nat):Int))=((st r:Nat):Int):=by
 rw[show (r:Int) / 2=((r / 2:Nat):Int) from by omega];have h2:r % 2=0\/r % 2=1:=by omega
 unfold st;rcases h2 with h2|h2 <;> rw[h2]
 ·rw[show (2197175160:Int)*((0:Nat):Int)=((0:Nat):Int) from by omega,u32_xor_nat _ _ (by omega) (by omega)];rfl
 ·rw[show (2197175160:Int)*((1:Nat):Int)=((2197175160:Nat):Int) from by omega,u32_xor_nat _ _ (by omega) (by omega)];rfl
theorem zru (a b:Nat):(a ^^^ b) / 2=a / 2 ^^^ b / 2:=by
 have h : ∀ x:Nat,x / 2=x >>> 1:=fun x=>by simp[Nat.shiftRight_eq_div_pow]
 rw[h,h,h,Nat.shiftRight_xor_distrib]
theorem zrt (a b:Nat):(a ^^^ b) % 2=(a+b) % 2:=by
 have h1:(a ^^^ b).testBit 0=(a.testBit 0 ^^ b.testBit 0):=Nat.testBit_xor ..;rcases Nat.mod_two_eq_zero_or_one a with ha|ha <;> rcases Nat.mod_two_eq_zero_or_one b with hb|hb <;> rcases Nat.mod_two_eq_zero_or_one (a ^^^ b) with hc|hc <;> simp[Nat.testBit_zero,ha,hb,hc]at h1 <;> omega
theorem zww (a b:Nat):st (a ^^^ b)=st a ^^^ st b:=by
 unfold st;rw[zru,zrt];have ha:a % 2=0\/a % 2=1:=by omega
 have hb:b % 2=0\/b % 2=1:=by omega
 have e:(a+b) % 2=(a % 2+b % 2) % 2:=by omega
 rw[e];rcases ha with ha|ha <;> rcases hb with hb|hb <;> rw[ha,hb] <;> simp
 ·rw[Nat.xor_assoc]
 ·rw[Nat.xor_assoc,Nat.xor_comm (b / 2) poly,<-Nat.xor_assoc]
 ·rw[Nat.xor_assoc,<-Nat.xor_assoc poly,Nat.xor_comm poly (b / 2),Nat.xor_assoc (b / 2),Nat.xor_self,Nat.xor_zero]
theorem zxu (q s:Nat) (h:s<16):16*q ^^^ s=16*q+s:=by
 apply Nat.eq_of_testBit_eq;intro j;have h1:=Nat.testBit_two_pow_mul_add q (i:=4) (b:=s) h j;have h2:=Nat.testBit_two_pow_mul_add q (i:=4) (b:=0) (by omega) j;simp only[Nat.reducePow,Nat.add_zero,Nat.zero_testBit]at h1 h2;rw[Nat.testBit_xor,h1,h2];by_cases hj:j<4
 ·simp[hj]
 ·have hs:s.testBit j=false:=Nat.testBit_lt_two_pow (Nat.lt_of_lt_of_le h (Nat.pow_le_pow_right (n:=2) (by omega) (show 4<=j from by omega)));simp[hj,hs]
theorem zfd (x:Nat):st (2*x)=x:=by
 unfold st;rw[show 2*x / 2=x from by omega,if_neg (by omega),Nat.xor_zero]
theorem zuz (k a b:Nat):stN k (a ^^^ b)=stN k a ^^^ stN k b:=by
 induction k with
 | zero=>rfl
 | succ k ih=>simp only[stN];rw[ih,zww]
theorem zu0 (j k r:Nat):stN (j+k) r=stN j (stN k r):=by
 induction j with
 | zero=>simp[stN]
 | succ j ih=>rw[show j+1+k=(j+k)+1 from by omega];simp only[stN];rw[ih]
theorem zwx (q:Nat):stN 4 (16*q)=q:=by
 simp only[stN];rw[show 16*q=2*(8*q) from by omega,zfd,show 8*q=2*(4*q) from by omega,zfd,show 4*q=2*(2*q) from by omega,zfd,zfd]
theorem zgq (r:Nat):stN 4 r=r / 16 ^^^ stN 4 (r % 16):=by
 have h:r=16*(r / 16) ^^^ (r % 16):=by rw[zxu _ _ (by omega)];omega
 have e:=zuz 4 (16*(r / 16)) (r % 16);rw[<-h,zwx]at e;exact e
theorem znp (r:Nat) (c:UInt8) (h:r<4294967296):zc6 r c<4294967296:=by
 have:=c.toNat_lt;exact za8 _ _ (Nat.xor_lt_two_pow (n:=32) (by omega) (by omega))
theorem zjv (l:List UInt8) : ∀ r,r<4294967296->zbm r l<4294967296:=by
 induction l with
 | nil=>intro r h;exact h
 | cons c l ih=>intro r h;exact ih _ (znp r c h)
theorem znq (r:Nat) (l:List UInt8) (c:UInt8):zbm r (l++[c])=zc6 (zbm r l) c:=by
 simp[zbm,List.foldl_append]
theorem zhm (l:List UInt8):sumF l<4294967296:=by
 have:=zjv l 4294967295 (by omega);exact Nat.xor_lt_two_pow (n:=32) (by omega) (by omega)
def yx (k:Nat):Array Value:=((List.range 16).map fun j=>Value.int .u32 (if j<k then ((stN 4 j:Nat):Int) else 0)).toArray
theorem qa (k:Nat):(yx k).size=16:=by simp[yx]
theorem bx (k j:Nat) (h:j<16):(yx k)[j]? = some (.int .u32 (if j<k then ((stN 4 j:Nat):Int) else 0)):=by
 simp[yx,h]
theorem zju (k:Nat) (_h:k<16):(yx k).setIfInBounds k (.int .u32 ((stN 4 k:Nat):Int))=yx (k+1):=by
 apply Array.ext_getElem?;intro j;by_cases hj:j<16
 ·rw[Array.getElem?_setIfInBounds,bx (k+1) j hj,qa];by_cases hk:k=j
  ·subst hk;simp[hj]
  ·rw[if_neg hk,bx k j hj];congr 2
   by_cases h2:j<k
   ·rw[if_pos h2,if_pos (by omega)]
   ·rw[if_neg h2,if_neg (by omega)]
 ·have h1:=qa k;have h2:=qa (k+1);rw[Array.getElem?_eq_none (by simp;omega),Array.getElem?_eq_none (by omega)]
theorem zbi:yx 0 = #[.int .u32 0,.int .u32 0,.int .u32 0,.int .u32 0,.int .u32 0,.int .u32 0,.int .u32 0,.int .u32 0,.int .u32 0,.int .u32 0,.int .u32 0,.int .u32 0,.int .u32 0,.int .u32 0,.int .u32 0,.int .u32 0]:=by
 simp[yx,List.range_succ]
theorem zpj (x:Nat) (c:UInt8) (hx:x<4294967296) : ∃ q s t q1 s1 t1 q2:Nat,
  bits .xor .u32 (x:Int) ((c.toNat:Nat):Int)=(q:Int)/\q<4294967296/\bits .and .u32 (q:Int) 15=(s:Int)/\s<16/\t=stN 4 s/\t<4294967296/\
  bits .xor .u32 ((q:Int) / 16) (t:Int)=(q1:Int)/\q1<4294967296/\bits .and .u32 (q1:Int) 15=(s1:Int)/\s1<16/\t1=stN 4 s1/\t1<4294967296/\
  bits .xor .u32 ((q1:Int) / 16) (t1:Int)=(q2:Int)/\q2<4294967296/\q2=zc6 x c:=by
 have hc:=c.toNat_lt;have hq:x ^^^ c.toNat<4294967296:=Nat.xor_lt_two_pow (n:=32) (by omega) (by omega);have e1:=zgq (x ^^^ c.toNat);have hq1:=za8 4 _ hq;have e2:=zgq (stN 4 (x ^^^ c.toNat));have hq2:=za8 4 _ hq1;refine⟨x ^^^ c.toNat,(x ^^^ c.toNat) % 16,stN 4 ((x ^^^ c.toNat) % 16),stN 4 (x ^^^ c.toNat),stN 4 (x ^^^ c.toNat) % 16,stN 4 (stN 4 (x ^^^ c.toNat) % 16),stN 4 (stN 4 (x ^^^ c.toNat)),
  u32_xor_nat _ _ hx (by omega),hq,zh3 _ hq,by omega,rfl,za8 _ _ (by omega),?_,hq1,zh3 _ hq1,by omega,rfl,za8 _ _ (by omega),?_,hq2,?_⟩
 ·rw[show ((x ^^^ c.toNat:Nat):Int) / 16=(((x ^^^ c.toNat) / 16:Nat):Int) from by omega,u32_xor_nat _ _ (by omega) (za8 _ _ (by omega)),<-e1]
 ·rw[show ((stN 4 (x ^^^ c.toNat):Nat):Int) / 16=((stN 4 (x ^^^ c.toNat) / 16:Nat):Int) from by omega,u32_xor_nat _ _ (by omega) (za8 _ _ (by omega)),<-e2]
 ·rw[<-zu0];rfl
theorem zsv (x:Nat) (h:x<4294967296):bits .xor .u32 IntKind.u32.max (x:Int)=((x ^^^ 4294967295:Nat):Int):=by
 rw[show IntKind.u32.max=((4294967295:Nat):Int) from by decide,u32_xor_nat _ _ (by omega) h,Nat.xor_comm]
def x7 (kind:UInt8) (data:List UInt8):List UInt8:=kind :: (putU data.length++data)
def putF (kind:UInt8) (data:List UInt8):List UInt8:=le32 (sumF (x7 kind data))++x7 kind data
structure Fr where
 kind:UInt8
 data:List UInt8
 n:Nat
 e:Nat
def zj (l:List UInt8):Fr:=
 if l.length<5 then ⟨0,[],0,10⟩
 else if (zi (l.drop 5)).2.2≠0 then ⟨0,[],0,(zi (l.drop 5)).2.2⟩
 else if 2000<(zi (l.drop 5)).1 then ⟨0,[],0,12⟩
 else if l.length-5-(zi (l.drop 5)).2.1<(zi (l.drop 5)).1 then ⟨0,[],0,10⟩
 else if (u32F l).1≠sumF ((l.drop 4).take (1+(zi (l.drop 5)).2.1+(zi (l.drop 5)).1)) then ⟨0,[],0,11⟩
 else ⟨l.getD 4 0,(l.drop (5+(zi (l.drop 5)).2.1)).take (zi (l.drop 5)).1,5+(zi (l.drop 5)).2.1+(zi (l.drop 5)).1,0⟩
theorem zc3 (n:Nat):(le32 n).length=4:=rfl
theorem zb8 (kind:UInt8) (data:List UInt8):(x7 kind data).length=1+(putU data.length).length+data.length:=by
 simp[x7];omega
theorem ko (kind:UInt8) (data:List UInt8):(putF kind data).length=5+(putU data.length).length+data.length:=by
 simp[putF,zc3,zb8];omega
def zbo (c:Int) (n:Nat):Nat:=((if c<0 then -(c+1) else c) % (n:Int)).toNat
theorem zkg (c:Int) (n:Nat) (h:0<n):zbo c n<n:=by
 unfold zbo;have:=Int.emod_lt_of_pos (if c<0 then -(c+1) else c) (show (0:Int)<n by omega);omega
theorem zn5 (c:Int) (n:Nat) (h:0<n):((zbo c n:Nat):Int)=(if c<0 then -(c+1) else c) % (n:Int):=by
 unfold zbo;have:=Int.emod_nonneg (if c<0 then -(c+1) else c) (show (n:Int)≠0 by omega);omega
end
section
open Go.RowKit
def OwnB (w:World) (base:Nat) (v:Value) (l:List UInt8):Prop:=w.ownsRow base 5 1 v l.length (bvs l)
def AppB (w:World) (base:Nat) (v:Value) (l:List UInt8):Prop:=App w base 5 1 v l.length (bvs l)
def NewB (l:List UInt8) (w:World) (e:Ending) (w':World):Prop:=∃ v',e = .returned v'/\OwnB w' w.heap.size v' l/\Below w.heap.size w w'
theorem zet:(Tryz.prog.info? 5).map (fun i=>(i.zero,i.size,i.bytes))=some (some (.int .u8 0),1,1):=by kernel_rfl
theorem zmk {w:World}{o:Oper}{a:Act}{K:Act->World->Prop}{Q:Exit->Act->World->Prop} (s x:Operand) (tx:TypeId)
  (ho:o.op = .call { callee:=.builtin .append,args:=#[s,x],argTypes:=#[33,tx] }) (base:Nat)
  (v:Value) (l:List UInt8) (hs:a.eval s=v) (happ:AppB w base v l)
  (y:Value) (m:List UInt8) (hx:a.eval x=y) (hsrc:Src Tryz.prog 1 tx y m.length (bvs m) w)
  (hbytes:l.length+m.length<=140737488355328) (hbase:base<=w.heap.size)
  (h : ∀ v' w',AppB w' base v' (l++m)->(0<m.length->OwnB w' base v' (l++m))->(OwnB w base v l->OwnB w' base v' (l++m))->
   w.grownBy w' v.ownBlock->Below base w w'->(∀ k,v'.ownBlock=some k->v.ownBlock=some k\/w.heap.size<=k)->K (a.put o.dst v') w'):o.wp Tryz.prog a w K Q:=by
 obtain⟨i0,hi,hz0,hz1,hz2⟩:=info_parts zet;refine ka s x 33 tx ho base 5 i0 (.int .u8 0) 1 1 Tryz.underlying33 hi hz0 hz1 hz2 rfl v l.length (bvs l) hs happ (qh l) y m.length (bvs m) hx hsrc (by omega) (by omega) hbase ?_;intro v' w' h1 h2 h3 h4 h5 h6;rw[<-List.length_append,<-zbu]at h1 h2 h3;exact h v' w' h1 h2 h3 h4 h5 h6
theorem kw {w:World}{ops:Array Oper}{rest:List Oper}{o:Oper}{a:Act}{Q:Exit->Act->World->Prop} (hgd:o.guard=none) (s x:Operand) (tx:TypeId)
  (ho:o.op = .call { callee:=.builtin .append,args:=#[s,x],argTypes:=#[33,tx] }) (base:Nat)
  (v:Value) (l:List UInt8) (hs:a.eval s=v) (happ:AppB w base v l)
  (y:Value) (m:List UInt8) (hx:a.eval x=y) (hsrc:Src Tryz.prog 1 tx y m.length (bvs m) w)
  (hbytes:l.length+m.length<=140737488355328) (hbase:base<=w.heap.size)
  (h : ∀ v' w',AppB w' base v' (l++m)->(0<m.length->OwnB w' base v' (l++m))->(OwnB w base v l->OwnB w' base v' (l++m))->
   w.grownBy w' v.ownBlock->Below base w w'->(∀ k,v'.ownBlock=some k->v.ownBlock=some k\/w.heap.size<=k)->wpList Tryz.prog ops Q rest (a.put o.dst v') w'):wpList Tryz.prog ops Q (o :: rest) a w:=
 wpList_plain hgd fun _ hK=>zmk s x tx ho base v l hs happ y m hx hsrc hbytes hbase fun v' w' h1 h2 h3 h4 h5 h6=>hK _ _ (h v' w' h1 h2 h3 h4 h5 h6)
theorem zcn {w:World}{ops:Array Oper}{o:Oper}{a:Act}{K:Act->World->Prop}{Q:Exit->Act->World->Prop}{E:Prop} (hgd:o.guard=none) (s x:Operand) (tx:TypeId)
  (ho:o.op = .call { callee:=.builtin .append,args:=#[s,x],argTypes:=#[33,tx] }) (base:Nat)
  (v:Value) (l:List UInt8) (hs:a.eval s=v) (happ:AppB w base v l)
  (y:Value) (m:List UInt8) (hx:a.eval x=y) (hsrc:Src Tryz.prog 1 tx y m.length (bvs m) w)
  (hbytes:l.length+m.length<=140737488355328) (hbase:base<=w.heap.size)
  (h : ∀ v' w',AppB w' base v' (l++m)->(0<m.length->OwnB w' base v' (l++m))->(OwnB w base v l->OwnB w' base v' (l++m))->
   w.grownBy w' v.ownBlock->Below base w w'->(∀ k,v'.ownBlock=some k->v.ownBlock=some k\/w.heap.size<=k)->K (a.put o.dst v') w') :
  if Region.wanted o (yielded ops a.tmps)=true then Oper.wp Tryz.prog o a w K Q else E:=by
 have hw:Region.wanted o (yielded ops a.tmps)=true:=by simp[Region.wanted,hgd]
 rw[if_pos hw];exact zmk s x tx ho base v l hs happ y m hx hsrc hbytes hbase h
theorem qe:(Tryz.prog.info? 5).map (·.size)=some 1:=by kernel_rfl
theorem zb6 {w:World}{v:Value}{l:List UInt8} (h:RdB w v l):(convert 33 9 v).run Tryz.prog w = .ok (.string ⟨l.toArray⟩) w:=by
 obtain⟨a,cap,rfl,_⟩:=id h;rw[run_convert_bytes_string w _ _ 5 a _ cap Tryz.underlying33 Tryz.underlying5 Tryz.underlying9];exact zu4 h
theorem zhn (w:World) (b:UInt8) (n:Int) (hn:n=b.toNat):Src Tryz.prog 1 33 (.slice (some ⟨w.heap.size,0,none⟩) 1 1) [b].length (bvs [b]) (w.alloc (.cells #[.int .u8 n] 5)):=by
 subst hn;refine Src.ofSlice _ Tryz.underlying33 ⟨w.heap.size,0,none⟩ 1 1 (bvs [b]) rfl (fun j u hu=>?_) (qh _);cases j with
 | zero=>simp[bvs,bv]at hu;subst hu;simp[Addr.add,go_sem]
 | succ j=>simp[bvs]at hu
theorem zdo (a:Option Addr) (len cap:Nat) (w:World) (h1:len<=cap) (_h2:cap<=9223372036854775807) :
  Calls Tryz.prog 47 #[.slice a len cap] w fun e w'=>e = .returned (.slice a len len)/\w=w':=by
 go_enter Tryz.func47,Tryz.ntmps47;go_wp2;go_ret;exact⟨rfl,rfl⟩
theorem yi (w:World) (v:Value) (l:List UInt8) (n:Nat) (hv:RdB w v l) (hn:n<=18446744073709551615) (hl:l.length+10<=140737488355328) :
  Calls Tryz.prog 45 #[v,.int .u64 n] w (NewB (l++putU n) w):=by
 obtain⟨a,cap,rfl,h1,h2,h3,h4⟩:=id hv;have h2:cap<=9223372036854775807:=by unfold maxLen at h2;omega
 have Happ:AppB w w.heap.size (.slice a l.length l.length) l:=zgb hv;go_enter Tryz.func45,Tryz.ntmps45;go_wp2_with (go_at_call 47;refine(zdo _ _ _ _ h1 h2).mono ?_;rintro e w' ⟨rfl,rfl⟩)
 clear h3 h4;go_loopw [0,1] (fun b x wr=>∃ f m bs,m<2*128 ^ f/\bs++jh f m=l++putU n/\x = .int .u64 (m:Nat)/\AppB wr w.heap.size b bs/\Below w.heap.size w wr) (fun _ x _=>(intOf x).toNat);case atStart=>exact⟨9,n,l,by omega,rfl,rfl,Happ,Below.refl _ _⟩
 case round=>
  obtain⟨f,m,bs,hm,heq,rfl,hb,hbel⟩:=hrel;have HE:=hid heq;have hlen:bs.length+1<=l.length+10:=by
   have h1:=congrArg List.length heq;simp only[List.length_append]at h1;have h2:=zid f m;have h3:=zq n;omega
  clear heq;have hbs:=hbel.size;by_cases hlt:m<128
  ·have Hs1:=hid (show ((m:Nat):Int)=((UInt8.ofNat m).toNat:Int) by rw[UInt8.toNat_ofNat',Nat.mod_eq_of_lt (by omega)]);go_wp2_with (at_builtin;go_must (refine kw rfl _ _ _ rfl w.heap.size u0 bs rfl (hb.alloc _) _ [UInt8.ofNat m] rfl (zhn wr _ _ Hs1.out) ?_ ?_ ?_;(first|omega|(simp only[List.length_cons,List.length_nil,List.length_append,le32];omega));(first|omega|(simp only[World.alloc,Array.size_push];omega));intro v' w' k1 k2 k3 k4 k5 k6))
   go_ret;refine⟨v',rfl,?_,hbel.trans (((Below.refl _ _).alloc hbs _).trans k5)⟩;rw[<-HE.out,zc1 hlt];exact k2 (by simp)
  ·have hf : ∃ f',f=f'+1:=by
    cases f with
    | zero=>simp at hm;omega
    | succ f'=>exact⟨f',rfl⟩
   obtain⟨f',rfl⟩:=hf;have Hs1:=hid (show bits BinOp.or IntKind.u8 ((m:Int) % 256) 128=((UInt8.ofNat (m % 128+128)).toNat:Int) by
    have:=zxx m;rw[UInt8.toNat_ofNat',Nat.mod_eq_of_lt (by omega),<-this];congr 1)
   go_wp2_with (at_builtin;go_must (refine kw rfl _ _ _ rfl w.heap.size u0 bs rfl (hb.alloc _) _ [UInt8.ofNat (m % 128+128)] rfl (zhn wr _ _ Hs1.out) ?_ ?_ ?_;(first|omega|(simp only[List.length_cons,List.length_nil,List.length_append,le32];omega));(first|omega|(simp only[World.alloc,Array.size_push];omega));intro v' w' k1 k2 k3 k4 k5 k6))
   go_roundw;case rel=>
    refine⟨f',m / 128,bs++[UInt8.ofNat (m % 128+128)],?_,?_,?_,k1,hbel.trans (((Below.refl _ _).alloc hbs _).trans k5)⟩
    ·rw[Nat.pow_succ]at hm;omega
    ·rw[<-HE.out,zdu hlt];simp
    ·go_num
   case measure=>simp[intOf];omega
theorem zu2 (w:World) (cells:Array Value) (l:List UInt8) (n:Nat) (hn:n=l.length) (h:cells.toList=bvs l):Src Tryz.prog 1 33 (.slice (some ⟨w.heap.size,0,none⟩) n n) l.length (bvs l) (w.alloc (.cells cells 5)):=by
 subst hn;refine Src.ofSlice _ Tryz.underlying33 ⟨w.heap.size,0,none⟩ _ _ (bvs l) (by simp) (fun j u hu=>?_) (qh _);rw[show (⟨w.heap.size,0,none⟩:Addr).add j=⟨w.heap.size,j,none⟩ from by unfold Addr.add;split <;> simp_all];rw[<-h]at hu;simpa[go_sem] using hu
theorem zu7 (w:World) (g:Nat) (cells:Array Value) (t:TypeId) (l:List UInt8) (n:Nat) (hg:w.heap.size=g) (hn:n=l.length) (hm:n<=9223372036854775807) (h:cells.toList=bvs l) (fr:Nat × Nat:=(0,0)):RdB (w.alloc (.cells cells t fr)) (.slice (some ⟨g,0,none⟩) n n) l:=by
 subst hn;subst hg;refine⟨_,_,rfl,Nat.le_refl _,by unfold maxLen;omega,by simp,fun _=>⟨_,_,rfl,by simp,fun j hj=>?_⟩⟩;rw[Nat.zero_add,cell_of_row _ _ _ _ _ _ (heap_alloc_new w _),<-h];simp
theorem zmq (w:World) (s:ByteArray):Src Tryz.prog 1 9 (.string s) s.data.toList.length (bvs s.data.toList) w:=by
 have h:=Src.ofString (P:=Tryz.prog) w (tx:=9) Tryz.underlying9 s;rwa [show s.size=s.data.toList.length from by rw[Array.length_toList];rfl]at h
theorem bz {w:World}{x:Value}{m:List UInt8} (h:RdB w x m):Src Tryz.prog 1 33 x m.length (bvs m) w:=zb5 Tryz.underlying33 h (qh m)
theorem OwnB.low {w:World}{base base':Nat}{v:Value}{l:List UInt8} (h:OwnB w base v l) (hb:base'<=base):OwnB w base' v l:=j4 h hb
theorem OwnB.slice {w:World}{base:Nat}{v:Value}{l:List UInt8} (h:OwnB w base v l) : ∃ a c,v = .slice a l.length c:=by
 rcases h.2 with⟨rfl,h2⟩|⟨g,cap,cur,rfl,_⟩
 ·exact⟨none,0,by rw[h2]⟩
 ·exact⟨_,_,rfl⟩
theorem zk {w:World}{base:Nat}{v:Value}{l:List UInt8} (h:OwnB w base v l):RdB w v l:=za9 h
theorem qg {w:World}{base:Nat}{v:Value}{l:List UInt8} (h:OwnB w base v l):AppB w base v l:=.inl h
end
end Go.Proofs.YtnadlnmclameiaaGreatDoor
