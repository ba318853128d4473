/- part 12 -/
import Derived.Test.YtnadlnmclameiaaGreatDoorTS11
import Derived.Lib.SlBytesConst
import Derived.Lib.LazyBuf
import Derived.Lib.BufferWrite
set_option maxRecDepth 100000
set_option maxHeartbeats 8000000
set_option linter.all false
namespace Go.Proofs.YtnadlnmclameiaaGreatDoor
theorem znm (f:Nat) : ∀ (i acc m:Nat) (r:List UInt8),f+i=10->m<2*128 ^ (f-1)->(0<i->0<m)->0<f->
  y9 f i acc (jh (f-1) m++r)=(acc+m*128 ^ i,i+(jh (f-1) m).length,0):=by
 induction f with
 | zero=>intro i acc m r _ _ _ h;omega
 | succ f ih=>
  intro i acc m r hi hm hp _;simp only[Nat.add_sub_cancel]at hm ⊢;by_cases h:m<128
  ·rw[zc1 h];have hn:(UInt8.ofNat m).toNat=m:=by rw[UInt8.toNat_ofNat',Nat.mod_eq_of_lt (by omega)]
   simp only[List.cons_append,List.nil_append,y9,hn];rw[if_neg (by omega),if_neg]
   ·simp[Nat.mod_eq_of_lt h]
   ·rintro (⟨h1,h2⟩|⟨h1,h2⟩)
    ·have:=hp h1;omega
    ·have:f=0:=by omega
     subst this;simp at hm;omega
  ·cases f with
   | zero=>simp at hm;omega
   | succ f=>
    rw[zdu h];have hn:(UInt8.ofNat (m % 128+128)).toNat=m % 128+128:=by rw[UInt8.toNat_ofNat',Nat.mod_eq_of_lt (by omega)]
    simp only[List.cons_append];rw[y9,hn,if_pos (by omega)];have:=ih (i+1) (acc+(m % 128+128) % 128*128 ^ i) (m / 128) r (by omega) (by simp;rw[Nat.pow_succ]at hm;omega) (by omega) (by omega);simp only[Nat.add_sub_cancel]at this;rw[this];have e:acc+(m % 128+128) % 128*128 ^ i+m / 128*128 ^ (i+1)=acc+m*128 ^ i:=by
     have h1:(m % 128+128) % 128=m % 128:=by omega
     have h2:m % 128+m / 128*128=m:=by omega
     rw[h1,Nat.pow_succ];calc acc+m % 128*128 ^ i+m / 128*(128 ^ i*128)=acc+(m % 128+m / 128*128)*128 ^ i:=by rw[Nat.add_mul];rw[Nat.mul_comm (128 ^ i) 128,<-Nat.mul_assoc];omega
      _=acc+m*128 ^ i:=by rw[h2]
    rw[e];simp only[List.length_cons,Prod.mk.injEq,true_and,and_true];omega
theorem qi (n:Nat) (hn:n<=18446744073709551615) (r:List UInt8):zi (putU n++r)=(n,(putU n).length,0):=by
 have:=znm 10 0 0 n r rfl (by omega) (by omega) (by omega);simpa[zi,putU] using this
theorem zpf (n:Nat) (hn:n<4294967296) (r:List UInt8):(u32F (le32 n++r)).1=n:=by
 simp only[le32,List.cons_append,List.nil_append,u32F,UInt8.toNat_ofNat'];omega
theorem zc4 (kind:UInt8) (data r:List UInt8) (hd:data.length<=2000):zj (putF kind data++r)=⟨kind,data,(putF kind data).length,0⟩:=by
 have hu:=qi data.length (by omega) (data++r);have hlen:=ko kind data;have h5:(putF kind data++r).drop 5=putU data.length++(data++r):=by simp[putF,le32,x7]
 have h4:(putF kind data++r).drop 4=x7 kind data++r:=by simp[putF,le32]
 have hg:(putF kind data++r).getD 4 0=kind:=by simp[putF,le32,x7]
 have hsf:=zhm (x7 kind data);unfold zj;rw[h5,hu,h4,hg];simp only[ne_eq,not_true_eq_false,if_false];rw[if_neg (by simp;omega),if_neg (by omega),if_neg (by simp[hlen];omega),if_neg]
 ·have h5':(putF kind data++r).drop (5+(putU data.length).length)=data++r:=by
   rw[<-List.drop_drop,h5,List.drop_left]
  rw[h5',List.take_left,hlen]
 ·rw[<-zb8,List.take_left];refine fun hne=>hne ?_;rw[show putF kind data++r=le32 (sumF (x7 kind data))++(x7 kind data++r) by simp[putF],zpf _ hsf]
theorem zjp (f:Nat) : ∀ (i acc:Nat) (l:List UInt8) (n k:Nat),f+i=10->y9 f i acc l=(n,k,0)->
  ∃ m,n=acc+m*128 ^ i/\m<2*128 ^ (f-1)/\(0<i->0<m)/\i<k/\l.take (k-i)=jh (f-1) m:=by
 induction f with
 | zero=>intro i acc l n k _ h;simp[y9]at h
 | succ f ih=>
  intro i acc l n k hi h;cases l with
  | nil=>simp[y9]at h
  | cons c r=>
   have hc:=c.toNat_lt;simp only[y9]at h;simp only[Nat.add_sub_cancel];by_cases h1:128<=c.toNat
   ·rw[if_pos h1]at h;obtain⟨m,e1,e2,e3,e4,e5⟩:=ih (i+1) _ r n k (by omega) h;cases f with
    | zero=>simp[y9]at h
    | succ f=>
     simp only[Nat.add_sub_cancel]at e2 e5;have hm:0<m:=e3 (by omega);refine⟨c.toNat % 128+m*128,?_,?_,by omega,by omega,?_⟩
     ·rw[e1,Nat.pow_succ,Nat.add_mul,Nat.add_assoc];congr 2
      rw[Nat.mul_assoc,Nat.mul_comm (128 ^ i) 128]
     ·rw[Nat.pow_succ];omega
     ·rw[zdu (by omega),show k-i=(k-(i+1))+1 from by omega,List.take_succ_cons,e5];rw[show (c.toNat % 128+m*128) / 128=m from by omega,show (c.toNat % 128+m*128) % 128+128=c.toNat from by omega];simp
   ·rw[if_neg h1]at h;by_cases h2:(0<i/\c.toNat=0)\/(i=9/\1<c.toNat)
    ·rw[if_pos h2]at h;simp at h
    ·rw[if_neg h2]at h;simp only[Prod.mk.injEq,and_true]at h;obtain⟨rfl,rfl⟩:=h;refine⟨c.toNat,by rw[Nat.mod_eq_of_lt (by omega)],?_,by omega,by omega,?_⟩
     ·by_cases hf:f=0
      ·subst hf;simp;omega
      ·have:128 ^ 1<=128 ^ f:=Nat.pow_le_pow_right (by omega) (by omega);omega
     ·rw[show i+1-i=1 from by omega,zc1 (by omega)];simp
theorem zln (l:List UInt8) (n k:Nat) (h:zi l=(n,k,0)):l.take k=putU n/\k=(putU n).length:=by
 obtain⟨m,e1,e2,e3,e4,e5⟩:=zjp 10 0 0 l n k rfl h;have hk:=yh l;rw[h]at hk;obtain rfl:n=m:=by simpa using e1
 have e:l.take k=putU n:=by simpa[putU] using e5
 refine⟨e,?_⟩;have:=congrArg List.length e;rw[List.length_take,Nat.min_eq_left hk.2.2.1]at this;exact this
theorem zqg (l:List UInt8) (h:4<=l.length):le32 (u32F l).1=l.take 4:=by
 match l,h with
 | a :: b :: c :: d :: r,_=>
  have ha:=a.toNat_lt;have hb:=b.toNat_lt;have hc:=c.toNat_lt;have hd:=d.toNat_lt;simp only[u32F,le32,List.take_succ_cons,List.take_zero,List.cons.injEq,and_true];refine⟨?_,?_,?_,?_⟩ <;> apply UInt8.toNat_inj.1 <;> rw[UInt8.toNat_ofNat'] <;> omega
theorem zew (l:List UInt8) (h:(zj l).e=0):(zj l).data.length<=2000/\(zj l).n<=l.length/\l.take (zj l).n=putF (zj l).kind (zj l).data:=by
 have hfc:=yh (l.drop 5);have hca:=zln (l.drop 5);generalize hU:zi (l.drop 5)=r at hfc hca;obtain⟨m,k,er⟩:=r;dsimp only at hfc;obtain⟨f1,f2,f3,f4⟩:=hfc;unfold zj at h ⊢;rw[hU]at h ⊢;by_cases h5:l.length<5
 ·rw[if_pos h5]at h;simp at h
 rw[if_neg h5]at h ⊢;by_cases h6:er≠0
 ·rw[if_pos h6]at h;exact absurd h h6
 rw[if_neg h6]at h ⊢;obtain rfl:er=0:=by omega
 dsimp only at h ⊢;by_cases h7:2000<m
 ·rw[if_pos h7]at h;simp at h
 rw[if_neg h7]at h ⊢;by_cases h8:l.length-5-k<m
 ·rw[if_pos h8]at h;simp at h
 rw[if_neg h8]at h ⊢;by_cases h9:(u32F l).1≠sumF ((l.drop 4).take (1+k+m))
 ·rw[if_pos h9]at h;simp at h
 rw[if_neg h9]at h ⊢;have h9:(u32F l).1=sumF ((l.drop 4).take (1+k+m)):=Decidable.byContradiction h9;dsimp only;rw[List.length_drop]at f3;obtain⟨c1,c2⟩:=hca m k rfl;have hdl:((l.drop (5+k)).take m).length=m:=by rw[List.length_take,List.length_drop];omega
 refine⟨by omega,by omega,?_⟩;have hrest:(l.drop 4).take (1+k+m)=x7 (l.getD 4 0) ((l.drop (5+k)).take m):=by
  unfold x7;rw[hdl,<-c1,List.drop_eq_getElem_cons (show 4<l.length by omega),show 1+k+m=(k+m)+1 from by omega,List.take_succ_cons,List.getD_eq_getElem?_getD,List.getElem?_eq_getElem (by omega),Option.getD_some];congr 1
  rw[List.take_add,List.drop_drop]
 unfold putF;rw[<-hrest,<-h9,zqg l (by omega),show 5+k+m=4+(1+k+m) from by omega,List.take_add]
theorem zd0 (l:List UInt8) (h:(zj l).e≠0):(zj l).n=0/\(zj l).kind=0/\(zj l).data=[]:=by
 unfold zj at h ⊢;by_cases h5:l.length<5
 ·rw[if_pos h5];exact⟨rfl,rfl,rfl⟩
 rw[if_neg h5]at h ⊢;by_cases h6:(zi (l.drop 5)).2.2≠0
 ·rw[if_pos h6];exact⟨rfl,rfl,rfl⟩
 rw[if_neg h6]at h ⊢;by_cases h7:2000<(zi (l.drop 5)).1
 ·rw[if_pos h7];exact⟨rfl,rfl,rfl⟩
 rw[if_neg h7]at h ⊢;by_cases h8:l.length-5-(zi (l.drop 5)).2.1<(zi (l.drop 5)).1
 ·rw[if_pos h8];exact⟨rfl,rfl,rfl⟩
 rw[if_neg h8]at h ⊢;by_cases h9:(u32F l).1≠sumF ((l.drop 4).take (1+(zi (l.drop 5)).2.1+(zi (l.drop 5)).1))
 ·rw[if_pos h9];exact⟨rfl,rfl,rfl⟩
 rw[if_neg h9]at h;exact absurd rfl h
section
open Go.RowKit
def Calm (d:Dv):Prop:=d.down=false/\d.fuse = -1/\∀ n,d.pend n≠[]->0<=n/\n<d.safe.length
theorem zf9 {d:Dv} (h:Calm d) {n:Int} (hn:0<=n/\n<d.safe.length):opF d n 0=(0,{ d with ops:=d.ops+1 }):=by
 obtain⟨h1,h2,-⟩:=h;unfold opF;rw[if_neg (by rw[h1];simp),if_neg (by omega),if_neg (by simp),if_neg (by rw[h2];omega),if_neg (by rw[h2];omega)]
theorem zbk {d:Dv} (h:Calm d) {n:Int} (hn:0<=n/\n<d.safe.length) {b:List UInt8} (hb:b.length=512) :
  ∃ d',zy d n b=(0,d')/\Calm d'/\d'.safe.length=d.safe.length/\(∀ j,curF d' j=if j=n then b else curF d j):=by
 refine⟨{ d with ops:=d.ops+1,pend:=setP d.pend n (d.pend n++[b]) },?_,⟨h.1,h.2.1,fun j hj=>?_⟩,rfl,fun j=>?_⟩
 ·unfold zy;rw[if_pos hb,zf9 h hn];rfl
 ·by_cases e:j=n
  ·subst e;exact hn
  ·simp only[setP,if_neg e]at hj;exact h.2.2 j hj
 ·unfold curF;by_cases e:j=n
  ·subst e;simp[setP]
  ·simp[setP,e]
theorem zd1 {d:Dv} (h:Calm d) (hs:0<d.safe.length) :
  ∃ d',z7 d=(0,d')/\Calm d'/\d'.safe.length=d.safe.length/\(∀ j:Int,0<=j->j<d.safe.length->curF d' j=curF d j):=by
 refine⟨{ d with ops:=d.ops+1,safe:=(List.range d.safe.length).map fun (j:Nat)=>curF d (j:Int),pend:=fun _=>[] },?_,⟨h.1,h.2.1,fun j hj=>absurd rfl hj⟩,by simp,fun j hj hl=>?_⟩
 ·unfold z7;rw[zf9 h ⟨by omega,by omega⟩];rfl
 ·obtain⟨k,rfl⟩ : ∃ k:Nat,j=k:=⟨j.toNat,by omega⟩
  have hk:k<d.safe.length:=by omega
  show (([]:List Bk).getLast?).getD _=_;simp[hk]
theorem zs0 {d:Dv} (h:Calm d) {n:Int} (hn:0<=n/\n<d.safe.length) (c:Nat) {data:List UInt8} (hd:data.length<=400) :
  ∃ d',layF d n c data=(0,d')/\Calm d'/\d'.safe.length=d.safe.length/\(∀ j:Int,0<=j->j<d.safe.length->curF d' j=if j=n then recB c data else curF d j):=by
 obtain⟨d1,e1,c1,l1,v1⟩:=zbk h hn (zb9 c data hd).2.1;obtain⟨d2,e2,c2,l2,v2⟩:=zd1 c1 (by rw[l1];omega);refine⟨d2,?_,c2,l2.trans l1,fun j hj hl=>?_⟩
 ·unfold layF;rw[e1,if_neg (by simp)];exact e2
 ·rw[v2 j hj (by rw[l1];exact hl),v1]
theorem zl5 {d:Dv} (h:Calm d) {n:Int} (hn:0<=n/\n<(d.safe.length:Int)-1) {data:List UInt8} (hd:data.length<=400) :
  ∃ d',ju d n data=(0,d')/\Calm d'/\d'.safe.length=d.safe.length/\(∀ j:Int,0<=j->j<d.safe.length->curF d' j=if j=n then recB 0 data else if j=n+1 then zb else curF d j):=by
 obtain⟨d1,e1,c1,l1,v1⟩:=zbk h (n:=n+1) ⟨by omega,by omega⟩ zb_len;obtain⟨d2,e2,c2,l2,v2⟩:=zd1 c1 (by rw[l1];omega);obtain⟨d3,e3,c3,l3,v3⟩:=zs0 c2 (n:=n) (by rw[l2,l1];omega) 0 hd;refine⟨d3,?_,c3,(l3.trans l2).trans l1,fun j hj hl=>?_⟩
 ·unfold ju;rw[if_neg (by unfold yd;rw[if_neg (by omega)];simp),if_neg (by omega),e1,if_neg (by simp),e2,if_neg (by simp)];exact e3
 ·rw[v3 j hj (by rw[l2,l1];exact hl),v2 j hj (by rw[l1];exact hl),v1]
theorem zms (c:Nat) (hc:c<=1000000000) {data:List UInt8} (hd:data.length<=400):slF (recB c data)=⟨true,c,data⟩:=by
 have h3:=(zb9 c data hd).2.2;have hf:=zc4 115 (putU c++data) (List.replicate (512-(putF 115 (putU c++data)).length) 0) (by omega);have hu:=qi c (by omega) data;unfold slF;rw[show recB c data=putF 115 (putU c++data)++List.replicate (512-(putF 115 (putU c++data)).length) 0 by rw[recB],hf];dsimp only;rw[hu,if_neg (by simp)];dsimp only;rw[List.drop_left];congr 1
 unfold wrap64;omega
theorem zw1:slF zb=sl0:=by
 have h:(zj zb).kind=0:=by
  unfold zj;repeat' split
  all_goals first|rfl|(show zb.getD 4 0=0;unfold zb;rw[List.getD_eq_getElem?_getD,List.getElem?_replicate];rfl)
 unfold slF;rw[if_pos (.inr (by rw[h];decide))]
theorem zth (n:Nat):Calm (dv0 n):=⟨rfl,rfl,fun j hj=>absurd rfl hj⟩
theorem zvy {n:Nat}{j:Int} (h0:0<=j) (h1:j<n):curF (dv0 n) j=zb:=by
 obtain⟨k,rfl⟩ : ∃ k:Nat,j=k:=⟨j.toNat,by omega⟩
 have hk:k<n:=by omega
 show (([]:List Bk).getLast?).getD ((List.replicate n zb).getD (k:Int).toNat zb)=_;simp[hk,List.getD_eq_getElem?_getD]
open Go.RowKit Go.Maps
structure Mine (w W:World) (g:Nat) (ρ:Nat->Option DRol) (N:Nat) (d:Dv):Prop where
 dv:DvAt W g ρ N d
 nw : ∀ k,ρ k≠none->w.heap.size<=k
 ex:Ext w W
section
variable {w W W':World}{g:Nat}{ρ:Nat->Option DRol}{N N':Nat}{d:Dv}
theorem Mine.ext (h:Mine w W g ρ N d) (hx:Ext W W'):Mine w W' g ρ N d:=⟨h.dv.ext hx,h.nw,h.ex.trans hx⟩
theorem Mine.gnw (h:Mine w W g ρ N d):w.heap.size<=g:=by
 obtain⟨⟨_,_,_,h1⟩,h2,_⟩:=h;exact h2 g (by rw[h1.rg];simp)
theorem Mine.wr {ρ':Nat->Option DRol}{d':Dv} (h:Mine w W g ρ N d) (hd:DvAt W' g ρ' N' d') (hk:Keep (fun k=>ρ k=none) W W') (hr : ∀ k,ρ' k≠none->ρ k≠none\/W.heap.size<=k):Mine w W' g ρ' N' d':=by
 refine⟨hd,fun k hk=>?_,Keep.ext ?_⟩
 ·rcases hr k hk with h1|h1
  ·exact h.nw k h1
  ·exact Nat.le_trans h.ex.size h1
 ·have h1:Keep (fun k=>k<w.heap.size) w W:=h.ex.keep _;exact(h1.trans (hk.mono fun k hk _=>by
   by_cases e:ρ k=none
   ·exact e
   ·have:=h.nw k e;omega)).mono fun k _ hl=>hl
end
theorem zx5 (w:World):Calls Tryz.prog 20 #[.int .i64 64] w fun e w'=>∃ g,e = .returned (.tuple #[.pointer (some ⟨g,0,none⟩),.int .i64 0])/\∃ ρ,Mine w w' g ρ 0 (dv0 64):=by
 have h:=zwn w 64 (by omega) (by omega);rw[show ((64:Nat):Int)=64 from rfl]at h;refine h.mono ?_;rintro e w' ⟨g,rfl,⟨ρ,h1,h2⟩,h3⟩;exact⟨g,rfl,ρ,h1,h2,h3⟩
theorem zqj (w:World) (g:Nat) (C:Array Value) (n c:Nat) (hg:w.heap.size=g):(convert 33 33 (.slice (some ⟨g,0,none⟩) n c)).run Tryz.prog (w.alloc (.cells C 5)) = .ok (.slice (some ⟨g,0,none⟩) n c) (w.alloc (.cells C 5 (C.size,C.size+1))):=by
 subst hg;exact Lib.run_convert_bytes_const (P:=Tryz.prog) w 33 5 C n c Tryz.underlying33 Tryz.underlying5
end
section
open Go.RowKit Go.Maps
def Rec (d:Dv) (n:Int) (c:Nat) (x:List UInt8):Prop:=
 (slF (curF d n)=⟨true,c,x⟩/\((slF (curF d (n+1))).ok=true->(slF (curF d (n+1))).count<c))\/(slF (curF d (n+1))=⟨true,c,x⟩/\((slF (curF d n)).ok=true->(slF (curF d n)).count<c))
theorem Rec.cur {d d':Dv}{n:Int}{c:Nat}{x:List UInt8} (h:Rec d n c x) (h0:curF d' n=curF d n) (h1:curF d' (n+1)=curF d (n+1)):Rec d' n c x:=by
 unfold Rec;rw[h0,h1];exact h
theorem Rec.new {d:Dv}{n:Int}{c:Nat}{x:List UInt8} (h:Rec d n c x) :
  (newF (slF (curF d n)) (slF (curF d (n+1)))=0/\slF (curF d n)=⟨true,c,x⟩)\/(newF (slF (curF d n)) (slF (curF d (n+1)))=1/\slF (curF d (n+1))=⟨true,c,x⟩):=by
 rcases h with⟨h1,h2⟩|⟨h1,h2⟩
 ·left;refine⟨?_,h1⟩;rw[h1];unfold newF;rw[if_pos rfl,if_neg];intro h3;rw[Bool.and_eq_true,decide_eq_true_eq]at h3;have:=h2 h3.1;have:=h3.2;simp only at this;omega
 ·right;refine⟨?_,h1⟩;rw[h1];unfold newF;by_cases h3:(slF (curF d n)).ok=true
  ·have:=h2 h3;rw[if_pos h3,if_pos (by simp[this])]
  ·rw[if_neg h3,if_pos rfl]
theorem zs9 {d:Dv} (h:Calm d) (hs:0<d.safe.length) (n:Int):(z7 d).2.pend n=[]:=by
 unfold z7;rw[zf9 h ⟨by omega,by omega⟩];rfl
theorem zw7 {d:Dv} (h:Calm d) {n:Int} (hn:0<=n/\n<d.safe.length) (c:Nat) {data:List UInt8} (hd:data.length<=400) (j:Int):(layF d n c data).2.pend j=[]:=by
 obtain⟨d1,e1,c1,l1,v1⟩:=zbk h hn (zb9 c data hd).2.1;unfold layF;rw[e1,if_neg (by simp)];exact zs9 c1 (by rw[l1];omega) j
section
variable {w W:World}{g:Nat}{ρ:Nat->Option DRol}{N:Nat}{d:Dv}
theorem Mine.late (hm:Mine w W g ρ N d) {W':World} (hx:Ext W W') {k:Nat} (hk:W.heap.size<=k):ρ k=none:=by
 by_cases e:ρ k=none
 ·exact e
 ·have:=hm.dv.rlt k e;omega
theorem Mine.glt (hm:Mine w W g ρ N d):g<W.heap.size:=by
 obtain⟨⟨_,_,_,h⟩,_,_⟩:=hm;exact h.glt
end
end
section
open Go.RowKit
structure Up (d:Dv):Prop where
 up:d.down=false
 fuse : -1<=d.fuse
 rng : ∀ n,d.pend n≠[]->0<=n/\n<d.safe.length
def Img (d:Dv) (s:Int->Bk):Prop:=∀ k:Int,0<=k->k<d.safe.length->s k=d.safe.getD k.toNat zb\/s k∈d.pend k
def qk (d:Dv):Prop:=∀ n,d.pend n=[]
theorem zqm (d:Dv) (picks:List Int):Img d (curF (vz d picks)):=fun k h0 h1=>by
 obtain⟨j,rfl⟩ : ∃ j:Nat,k=j:=⟨k.toNat,by omega⟩
 exact zqt d picks j
theorem ztg (d:Dv) (picks:List Int):Up (vz d picks)/\qk (vz d picks)/\(vz d picks).fuse = -1/\(vz d picks).safe.length=d.safe.length:=
 ⟨⟨rfl,by show (-1:Int)<= -1;omega,fun n hn=>absurd rfl hn⟩,fun _=>rfl,rfl,zqu _ _⟩
theorem ks {d:Dv} (h:qk d) {s:Int->Bk} (hs:Img d s) : ∀ k:Int,0<=k->k<d.safe.length->s k=curF d k:=fun k h0 h1=>by
 have hk:=hs k h0 h1;rw[h k]at hk;unfold curF;rw[h k];rcases hk with e|e
 ·rw[e];rfl
 ·cases e
structure Same (d d':Dv):Prop where
 safe:d'.safe=d.safe
 pend:d'.pend=d.pend
theorem Same.cur {d d':Dv} (h:Same d d') (n:Int):curF d' n=curF d n:=by unfold curF;rw[h.safe,h.pend]
theorem Same.img {d d':Dv} (h:Same d d') {s:Int->Bk} (hs:Img d' s):Img d s:=by unfold Img at*;rw[h.safe,h.pend]at hs;exact hs
theorem Same.still {d d':Dv} (h:Same d d') (hs:qk d):qk d':=by unfold qk at*;rw[h.pend];exact hs
theorem Same.len {d d':Dv} (h:Same d d'):d'.safe.length=d.safe.length:=by rw[h.safe]
theorem Same.trans {a b c:Dv} (h:Same a b) (k:Same b c):Same a c:=⟨k.safe.trans h.safe,k.pend.trans h.pend⟩
theorem zfj {d:Dv} (h:Up d) {n:Int} (hn:0<=n/\n<d.safe.length) :
  (∃ d',opF d n 0=(0,d')/\Same d d'/\Up d'/\(d.fuse = -1->d'.fuse = -1))\/(d.fuse≠ -1/\∃ d',opF d n 0=(2,d')/\Same d d'/\d'.down=true):=by
 have hf:=h.fuse;by_cases h0:d.fuse=0
 ·right;refine⟨by omega,{ d with down:=true },?_,⟨rfl,rfl⟩,rfl⟩;unfold opF;rw[if_neg (by rw[h.up];simp),if_neg (by omega),if_neg (by simp),if_pos h0]
 ·left;refine⟨{ d with fuse:=if 0<d.fuse then d.fuse-1 else d.fuse,ops:=d.ops+1 },?_,⟨rfl,rfl⟩,⟨h.up,?_,h.rng⟩,fun e=>?_⟩
  ·unfold opF;rw[if_neg (by rw[h.up];simp),if_neg (by omega),if_neg (by simp),if_neg h0]
  ·show (-1:Int)<=if 0<d.fuse then d.fuse-1 else d.fuse
   split <;> omega
  ·show (if 0<d.fuse then d.fuse-1 else d.fuse) = -1;rw[if_neg (by omega),e]
structure Wr (d:Dv) (n:Int) (b:Bk) (d':Dv):Prop where
 safe:d'.safe=d.safe
 pend:d'.pend=setP d.pend n (d.pend n++[b])
theorem Wr.len {d d':Dv}{n:Int}{b:Bk} (h:Wr d n b d'):d'.safe.length=d.safe.length:=by rw[h.safe]
theorem Wr.cur {d d':Dv}{n:Int}{b:Bk} (h:Wr d n b d') (j:Int):curF d' j=if j=n then b else curF d j:=by
 unfold curF;rw[h.safe,h.pend];by_cases e:j=n
 ·subst e;simp[setP]
 ·simp[setP,e]
theorem Wr.img {d d':Dv}{n:Int}{b:Bk} (h:Wr d n b d') {s:Int->Bk} (hs:Img d' s):(∃ s0,Img d s0/\(∀ j,j≠n->s j=s0 j)/\s n=b)\/Img d s:=by
 unfold Img at hs;rw[h.safe,h.pend]at hs;by_cases hb:s n=b
 ·left;refine⟨fun j=>if j=n then d.safe.getD n.toNat zb else s j,fun k h0 h1=>?_,fun j hj=>by simp[hj],hb⟩;by_cases e:k=n
  ·subst e;simp
  ·simp only[e,if_false];have:=hs k h0 h1;simpa[setP,e] using this
 ·right;intro k h0 h1;have:=hs k h0 h1;by_cases e:k=n
  ·subst e;simp only[setP,if_true,List.mem_append,List.mem_singleton]at this;rcases this with e|e|e
   ·exact .inl e
   ·exact .inr e
   ·exact absurd e hb
  ·simpa[setP,e] using this
theorem zb2 {d:Dv} (h:Up d) {n:Int} (hn:0<=n/\n<d.safe.length) {b:Bk} (hb:b.length=512) :
  (∃ d',zy d n b=(0,d')/\Wr d n b d'/\Up d'/\(d.fuse = -1->d'.fuse = -1))\/(d.fuse≠ -1/\∃ d',zy d n b=(2,d')/\Same d d'/\d'.down=true):=by
 rcases zfj h hn with⟨d',e,h1,h2,h3⟩|⟨h0,d',e,h1,h2⟩
 ·left;refine⟨{ d' with pend:=setP d.pend n (d.pend n++[b]) },?_,⟨h1.safe,rfl⟩,⟨h2.up,h2.fuse,fun j hj=>?_⟩,h3⟩
  ·unfold zy;rw[if_pos hb,e];rfl
  ·show 0<=j/\j<d'.safe.length;rw[h1.safe];by_cases e:j=n
   ·subst e;exact hn
   ·simp only[setP,if_neg e]at hj;exact h.rng j hj
 ·right;refine⟨h0,d',?_,h1,h2⟩;unfold zy;rw[if_pos hb,e,if_neg (by simp)]
structure Fl (d d':Dv):Prop where
 len:d'.safe.length=d.safe.length
 still:qk d'
 cur : ∀ j:Int,0<=j->j<d.safe.length->curF d' j=curF d j
theorem zcg {d:Dv} (h:Up d) (hs:0<d.safe.length) :
  (∃ d',z7 d=(0,d')/\Fl d d'/\Up d'/\(d.fuse = -1->d'.fuse = -1))\/(d.fuse≠ -1/\∃ d',z7 d=(2,d')/\Same d d'/\d'.down=true):=by
 rcases zfj h (n:=0) ⟨by omega,by omega⟩ with⟨d',e,h1,h2,h3⟩|⟨h0,d',e,h1,h2⟩
 ·left;refine⟨{ d' with safe:=(List.range d.safe.length).map fun (j:Nat)=>curF d (j:Int),pend:=fun _=>[] },?_,⟨by simp,fun _=>rfl,fun j hj hl=>?_⟩,⟨h2.up,h2.fuse,fun j hj=>absurd rfl hj⟩,h3⟩
  ·unfold z7;rw[e];rfl
  ·obtain⟨k,rfl⟩ : ∃ k:Nat,j=k:=⟨j.toNat,by omega⟩
   have hk:k<d.safe.length:=by omega
   show (([]:List Bk).getLast?).getD _=_;simp[hk]
 ·right;refine⟨h0,d',?_,h1,h2⟩;unfold z7;rw[e,if_neg (by simp)]
theorem zbx {d:Dv} (h:Up d) (hf:d.fuse = -1):Calm d:=⟨h.up,hf,h.rng⟩
theorem zde {d:Dv} (h:Calm d):Up d:=⟨h.1,by rw[h.2.1];omega,h.2.2⟩
end
section
open Go.RowKit Go.Maps
section
variable {w W:World}{g:Nat}{ρ:Nat->Option DRol}{N:Nat}{d:Dv}
theorem Mine.cr (hm:Mine w W g ρ N d) {W':World}{d':Dv} (hd:DvAt W' g ρ N d') (hk:Keep (fun k=>ρ k=none) W W'):Mine w W' g ρ N d':=hm.wr hd hk fun _ h=>.inl h
theorem zxo (hm:Mine w W g ρ N d) (hN:N<=999999000) (S:Nat->Prop) (v:Value) (picks:List Int) (hv:RdS rI W S v picks) (hS : ∀ k,S k->k<W.heap.size->ρ k=none) :
  Calls Tryz.prog 12 #[.pointer (some ⟨g,0,none⟩),v] W fun e W'=>e = .returned (.tuple #[])/\Mine w W' g ρ N (vz d picks)/\Keep (fun k=>ρ k=none) W W':=by
 refine(zrl W g ρ N d hm.dv (by omega) S v picks hv hS).mono ?_;rintro e W' ⟨rfl,h1,h2⟩;exact⟨rfl,hm.cr h1 h2,h2⟩
theorem Mine.old (hm:Mine w W g ρ N d) (k:Nat) (h:k<w.heap.size):ρ k=none:=by
 by_cases e:ρ k=none
 ·exact e
 ·have:=hm.nw k e;omega
theorem Mine.mono (hm:Mine w W g ρ N d) {N':Nat} (h:N<=N'):Mine w W g ρ N' d:=⟨hm.dv.mono h,hm.nw,hm.ex⟩
end
end
section
open Go.RowKit Go.Maps
def RecI (s:Int->Bk) (n:Int) (c:Nat) (x:List UInt8):Prop:=
 (slF (s n)=⟨true,c,x⟩/\((slF (s (n+1))).ok=true->(slF (s (n+1))).count<c))\/(slF (s (n+1))=⟨true,c,x⟩/\((slF (s n)).ok=true->(slF (s n)).count<c))
theorem zho {d:Dv}{n:Int}{c:Nat}{x:List UInt8} (h:Rec d n c x) {s:Int->Bk} (h0:s n=curF d n) (h1:s (n+1)=curF d (n+1)):RecI s n c x:=by
 unfold RecI;rw[h0,h1];exact h
theorem zw2 {d:Dv}{n:Int}{c:Nat}{x:List UInt8} (h:RecI (curF d) n c x):Rec d n c x:=h
theorem RecI.cur {n:Int}{c:Nat}{x:List UInt8}{s s':Int->Bk} (h:RecI s n c x) (h0:s' n=s n) (h1:s' (n+1)=s (n+1)):RecI s' n c x:=by
 unfold RecI;rw[h0,h1];exact h
theorem zj6 {s:Int->Bk}{n:Int}{c:Nat}{x:List UInt8} (h:RecI s n c x) : ∃ i:Int,(i=0\/i=1)/\newF (slF (s n)) (slF (s (n+1)))=i/\(if i=0 then slF (s n) else slF (s (n+1)))=⟨true,c,x⟩/\(i=1->((slF (s n)).ok=true->(slF (s n)).count<c))/\(i=0->((slF (s (n+1))).ok=true->(slF (s (n+1))).count<c)):=by
 rcases h with⟨h1,h2⟩|⟨h1,h2⟩
 ·refine⟨0,.inl rfl,?_,by rw[if_pos rfl];exact h1,fun h=>absurd h (by decide),fun _=>h2⟩;rw[h1];unfold newF;rw[if_pos rfl,if_neg];intro h3;rw[Bool.and_eq_true,decide_eq_true_eq]at h3;have:=h2 h3.1;have:=h3.2;simp only at this;omega
 ·refine⟨1,.inr rfl,?_,by rw[if_neg (by decide)];exact h1,fun _=>h2,fun h=>absurd h (by decide)⟩;rw[h1];unfold newF;by_cases h3:(slF (s n)).ok=true
  ·have:=h2 h3;rw[if_pos h3,if_pos (by simp[this])]
  ·rw[if_neg h3,if_pos rfl]
theorem zu6 {s s':Int->Bk}{n:Int}{c:Nat} (hc:c<=999999999) {x:List UInt8} (h:RecI s n c x) {i:Int} (hi:newF (slF (s n)) (slF (s (n+1)))=i) {data:List UInt8} (hd:data.length<=400) (h1:s' (n+1-i)=recB (c+1) data) (h2 : ∀ j,(j=n\/j=n+1)->j≠n+1-i->s' j=s j):RecI s' n (c+1) data:=by
 obtain⟨i',hi',he,hs,ha,hb⟩:=zj6 h;rw[hi]at he;subst he;have hr:=zms (c+1) (by omega) hd;rcases hi' with rfl|rfl
 ·right;rw[show n+1-0=n+1 by omega]at h1;refine⟨by rw[h1,hr],?_⟩;rw[h2 n (.inl rfl) (by omega)];rw[if_pos rfl]at hs;rw[hs];intro _;show (c:Int)<((c+1:Nat):Int);omega
 ·left;rw[show n+1-1=n by omega]at h1;refine⟨by rw[h1,hr],?_⟩;rw[h2 (n+1) (.inr rfl) (by omega)];rw[if_neg (by decide)]at hs;rw[hs];intro _;show (c:Int)<((c+1:Nat):Int);omega
theorem zm7 {d:Dv} (h:Up d) {n:Int} (hn:0<=n/\n+1<d.safe.length) :
  (∃ d',zo d n=⟨slF (curF d n),slF (curF d (n+1)),newF (slF (curF d n)) (slF (curF d (n+1))),0,d'⟩/\Same d d'/\Up d'/\(d.fuse = -1->d'.fuse = -1))\/(d.fuse≠ -1/\∃ d',(zo d n).err=2/\(zo d n).newest = -1/\(zo d n).s1=sl0/\(zo d n).dev=d'/\Same d d'/\d'.down=true):=by
 rcases zfj h (n:=n) ⟨by omega,by omega⟩ with⟨d1,e1,h1,u1,f1⟩|⟨h0,d1,e1,h1,u1⟩
 ·rcases zfj u1 (n:=n+1) (by rw[h1.len];omega) with⟨d2,e2,h2,u2,f2⟩|⟨h0,d2,e2,h2,u2⟩
  ·left;refine⟨d2,?_,h1.trans h2,u2,fun e=>f2 (f1 e)⟩;unfold zo;rw[e1];dsimp only;rw[e2,if_neg (by simp),if_neg (by simp),h1.cur]
  ·right;refine⟨fun e=>h0 (f1 e),d2,?_⟩;unfold zo;rw[e1];dsimp only;rw[e2,if_neg (by simp),if_pos (by simp)];exact⟨rfl,rfl,rfl,rfl,h1.trans h2,u2⟩
 ·right;refine⟨h0,d1,?_⟩;unfold zo;rw[e1];dsimp only;rw[if_pos (by simp)];exact⟨rfl,rfl,rfl,rfl,h1,u1⟩
theorem zvn {d:Dv} (h:Up d) {n:Int} (hn:0<=n/\n+1<d.safe.length) {c:Nat}{x:List UInt8} (hr:Rec d n c x) :
  (∃ d',j9 d n=⟨x,c,0,d'⟩/\Same d d'/\Up d'/\(d.fuse = -1->d'.fuse = -1))\/(d.fuse≠ -1/\∃ d',j9 d n=⟨[],0,2,d'⟩/\Same d d'/\d'.down=true):=by
 rcases zm7 h hn with⟨d',e,h1,h2,h3⟩|⟨h0,d',e1,e2,e3,e4,h1,h2⟩
 ·left;refine⟨d',?_,h1,h2,h3⟩;unfold j9;rw[if_neg (by unfold yd;rw[if_neg (by omega)];simp),e,if_neg (by simp)];rcases hr.new with⟨k1,k2⟩|⟨k1,k2⟩
  ·dsimp only;rw[k1,k2,if_neg (by omega),if_pos rfl]
  ·dsimp only;rw[k1,k2,if_neg (by omega),if_neg (by omega)]
 ·right;refine⟨h0,d',?_,h1,h2⟩;unfold j9;rw[if_neg (by unfold yd;rw[if_neg (by omega)];simp),if_pos (by rw[e1];simp),e1,e4]
theorem zr2 {d:Dv} (h:Up d) (hst:qk d) {n:Int} (hn:0<=n/\n+1<d.safe.length) {c:Nat} (hc:c<=999999999) {x:List UInt8} (hr:Rec d n c x) {data:List UInt8} (hd:data.length<=400) :
  (0<=newC (zo d n)/\newC (zo d n)<=999999999)/\
  ((∃ d',zyh d n data=(0,d')/\Up d'/\qk d'/\d'.safe.length=d.safe.length/\Rec d' n (c+1) data/\(∀ j:Int,0<=j->j<d.safe.length->j≠n->j≠n+1->curF d' j=curF d j)/\(d.fuse = -1->d'.fuse = -1))\/
   (d.fuse≠ -1/\∃ d',zyh d n data=(2,d')/\d'.down=true/\d'.safe.length=d.safe.length/\∀ s,Img d' s->(RecI s n c x\/RecI s n (c+1) data)/\∀ j:Int,0<=j->j<d.safe.length->j≠n->j≠n+1->s j=curF d j)):=by
 have hwr:yd d n=0:=by unfold yd;rw[if_neg (by omega)]
 have same_img : ∀ d',Same d d'->∀ s,Img d' s->(RecI s n c x\/RecI s n (c+1) data)/\∀ j:Int,0<=j->j<d.safe.length->j≠n->j≠n+1->s j=curF d j:=fun d' hs s hi=>by
  have hk:=ks hst (hs.img hi);exact⟨.inl (zho hr (hk n (by omega) (by omega)) (hk (n+1) (by omega) (by omega))),fun j j0 j1 _ _=>hk j j0 j1⟩
 rcases zm7 h hn with⟨d1,e,s1,u1,f1⟩|⟨h0,d1,e1,e2,e3,e4,s1,u1⟩
 ·obtain⟨i,hi,hne,hsl,-,-⟩:=zj6 (s:=curF d) hr;have hnc:newC (zo d n)=c:=by
   unfold newC;rw[e];dsimp only;rw[hne];rcases hi with rfl|rfl
   ·rw[if_pos rfl]at hsl ⊢;rw[hsl]
   ·rw[if_neg (by decide)]at hsl ⊢;rw[hsl]
  have hsf:zyh d n data=layF d1 (n+1-i) (c+1) data:=by
   unfold zyh;rw[if_neg (by rw[hwr];simp),if_neg (by omega),hnc,e];dsimp only;rw[if_neg (by simp),hne,if_neg (by rcases hi with rfl|rfl <;> decide),show ((c:Int)+1).toNat=c+1 by omega]
  refine⟨by rw[hnc];omega,?_⟩;rw[hsf];have hm:0<=n+1-i/\n+1-i<d1.safe.length:=by rw[s1.len];rcases hi with rfl|rfl <;> omega
  rcases zb2 u1 hm (zb9 (c+1) data hd).2.1 with⟨d2,e2,w2,u2,f2⟩|⟨h0,d2,e2,s2,u2⟩
  ·have hput : ∀ s:Int->Bk,s (n+1-i)=recB (c+1) data->(∀ j,(j=n\/j=n+1)->j≠n+1-i->s j=curF d j)->RecI s n (c+1) data:=fun s h1 h2=>zu6 hc hr hne hd h1 h2;rcases zcg u2 (by rw[w2.len,s1.len];omega) with⟨d3,e3,w3,u3,f3⟩|⟨h0,d3,e3,s3,u3⟩
   ·left;have hcur : ∀ j:Int,0<=j->j<d.safe.length->curF d3 j=if j=n+1-i then recB (c+1) data else curF d j:=fun j j0 j1=>by
     rw[w3.cur j j0 (by rw[w2.len,s1.len];exact j1),w2.cur,s1.cur]
    refine⟨d3,?_,u3,w3.still,w3.len.trans (w2.len.trans s1.len),?_,fun j j0 j1 j2 j3=>?_,fun e=>f3 (f2 (f1 e))⟩
    ·unfold layF;rw[e2,if_neg (by simp)];exact e3
    ·refine zw2 (hput _ (by rw[hcur _ (by omega) (by rw[s1.len]at hm;omega),if_pos rfl]) fun j hj hne'=>?_);rw[hcur j (by omega) (by omega),if_neg hne']
    ·rw[hcur j j0 j1,if_neg (by rcases hi with rfl|rfl <;> omega)]
   ·right;refine⟨fun e=>h0 (f2 (f1 e)),d3,?_,u3,s3.len.trans (w2.len.trans s1.len),fun s hs=>?_⟩
    ·unfold layF;rw[e2,if_neg (by simp)];exact e3
    ·rcases w2.img (s3.img hs) with⟨s0,k1,k2,k3⟩|k1
     ·have hk:=ks hst (s1.img k1);refine⟨.inr (hput s k3 fun j hj hne'=>?_),fun j j0 j1 j2 j3=>?_⟩
      ·rw[k2 j hne',hk j (by omega) (by omega)]
      ·rw[k2 j (by rcases hi with rfl|rfl <;> omega),hk j j0 j1]
     ·exact same_img d1 s1 s k1
  ·right;refine⟨fun e=>h0 (f1 e),d2,?_,u2,s2.len.trans s1.len,same_img d2 (s1.trans s2)⟩;unfold layF;rw[e2,if_pos (by simp)]
 ·refine⟨?_,.inr ⟨h0,d1,?_,u1,s1.len,same_img d1 s1⟩⟩
  ·unfold newC;rw[e2,if_neg (by decide),e3];exact⟨by show (0:Int)<=0;omega,by show (0:Int)<=999999999;omega⟩
  ·unfold zyh;rw[if_neg (by rw[hwr];simp),if_neg (by omega),if_pos (by rw[e1];simp),e1,e4]
end
section
open Go.RowKit Go.Maps
section
variable {w W:World}{g:Nat}{ρ:Nat->Option DRol}{N:Nat}{d:Dv}
theorem Mine.hd (h:Mine w W g ρ N d) {W':World}{N':Nat}{d':Dv} (hd:DvAt W' g ρ N' d') (hk:Keep (fun k=>k≠g) W W'):Mine w W' g ρ N' d':=by
 refine⟨hd,h.nw,Keep.ext ?_⟩;have h1:Keep (fun k=>k<w.heap.size) w W:=h.ex.keep _;exact(h1.trans (hk.mono fun k hk _ e=>by have:=h.gnw;omega)).mono fun k _ hl=>hl
end
end
section
open Go.RowKit Go.Maps Go.Sort Go.Shelf
theorem RdS.src {α:Type}{r:Rdr α}{w:World}{S:Nat->Prop}{v:Value}{xs:List α}{tx t:TypeId} (hu:Tryz.prog.underlying tx=some (.slice t)) (h:RdS r w S v xs) : ∃ gs:List (List Value × α),xs=gs.map (·.2)/\Src Tryz.prog r.size tx v gs.length (cellsOf gs) w/\∀ p∈gs,r.rd w S p.1 p.2:=by
 obtain⟨v',gs,e,rfl,h1,h2,h3⟩:=h;obtain rfl:=List.singleton_inj.1 e;refine⟨gs,rfl,zb5 hu h1 (fun u hu=>?_),h3⟩;obtain⟨p,hp,hu⟩:=List.mem_flatMap.1 hu;exact r.one (h3 p hp) u hu
theorem OwnS.made {α:Type} (r:Rdr α) (t:TypeId) (w:World) (S:Nat->Prop) (hS : ¬ S w.heap.size):OwnS r t (w.alloc (.cells #[] t)) w.heap.size S (.slice (some ⟨w.heap.size,0,none⟩) 0 0) []:=
 ⟨[],rfl,World.ownsRow_made w #[] 0 (Nat.le_refl _) (by simp[maxLen]) (by simp),fun k hk=>by simp only[Value.ownBlock,Option.map_some,Option.some.injEq]at hk;subst hk;exact hS,by simp⟩
end
section
open Go.RowKit Go.Maps
section
variable {w W:World}{g:Nat}{ρ:Nat->Option DRol}{N:Nat}{d:Dv}
theorem zhh (hm:Mine w W g ρ N d) (hN:N<=999999000) (n:Int) (hn : -9223372036854775808<=n/\n<=9223372036854775807) (v:Value) (data:List UInt8) (hv:RdB W v data) (hvb : ∀ k,v.ownBlock=some k->ρ k=none) :
  Calls Tryz.prog 122 #[.pointer (some ⟨g,0,none⟩),.int .i64 n,v] W fun e W'=>e = .returned (.int .i64 (zy d n data).1)/\(∃ ρ',Mine w W' g ρ' (N+2) (zy d n data).2/\∀ k,ρ' k≠none->ρ k≠none\/W.heap.size<=k)/\Keep (fun k=>ρ k=none) W W':=by
 refine(ze5 W g ρ N d hm.dv (by omega) n hn v data hv hvb).mono ?_;rintro e W' ⟨rfl,ρ',h1,h2,h3⟩;exact⟨rfl,⟨ρ',hm.wr h1 h2 h3,h3⟩,h2⟩
theorem zhi (hm:Mine w W g ρ N d) (hN:N<=999999000) :
  Calls Tryz.prog 123 #[.pointer (some ⟨g,0,none⟩)] W fun e W'=>e = .returned (.int .i64 (z7 d).1)/\(∃ ρ',Mine w W' g ρ' (N+1) (z7 d).2/\∀ k,ρ' k≠none->ρ k≠none\/W.heap.size<=k)/\Keep (fun k=>ρ k=none) W W':=by
 refine(ze7 W g ρ N d hm.dv (by omega)).mono ?_;rintro e W' ⟨rfl,ρ',h1,h2,h3⟩;exact⟨rfl,⟨ρ',hm.wr h1 h2 h3,h3⟩,h2⟩
theorem zuj (hm:Mine w W g ρ N d) (hN:N<=999999000) (n:Int) (hn : -9223372036854775808<=n/\n<=9223372036854775807) :
  Calls Tryz.prog 108 #[.pointer (some ⟨g,0,none⟩),.int .i64 n] W fun e W'=>
   ((opF d n 0).1≠0/\e = .returned (.tuple #[.slice none 0 0,.int .i64 (opF d n 0).1])\/(opF d n 0).1=0/\(curF d n).length=512/\∃ k,e = .returned (.tuple #[.slice (some ⟨k,0,none⟩) 512 512,.int .i64 0])/\W.heap.size<=k/\W'.heap[k]? = some (.cells (bvs (curF d n)).toArray 85 (0,0)))/\
   Mine w W' g ρ (N+1) (opF d n 0).2/\Keep (fun k=>k≠g) W W':=by
 refine(zld W g ρ N d hm.dv (by omega) n hn).mono ?_;rintro e W' ⟨h1,h2,h3⟩;exact⟨h1,hm.hd h2 h3,h3⟩
theorem zwc (hm:Mine w W g ρ N d) (hN:N<=999999000) (hc:Calm d) (n:Int) (hn:0<=n/\n<d.safe.length) (v:Value) (data:List UInt8) (hv:RdB W v data) (hvb : ∀ k,v.ownBlock=some k->ρ k=none) (hd:data.length=512) :
  Calls Tryz.prog 122 #[.pointer (some ⟨g,0,none⟩),.int .i64 n,v] W fun e W'=>e = .returned (.int .i64 0)/\∃ ρ' d',Mine w W' g ρ' (N+2) d'/\Calm d'/\Wr d n data d'/\Keep (fun k=>ρ k=none) W W'/\∀ k,ρ' k≠none->ρ k≠none\/W.heap.size<=k:=by
 have hsz:d.safe.length<=512:=by obtain⟨_,_,_,h⟩:=hm.dv;exact h.size.2
 rcases zb2 (zde hc) hn hd with⟨d',e1,h1,h2,h3⟩|⟨h0,_⟩
 ·refine(zhh hm hN n (by omega) v data hv hvb).mono ?_;rintro e W' ⟨rfl,⟨ρ',h4,h6⟩,h5⟩;rw[e1]at h4 ⊢;exact⟨rfl,ρ',d',h4,zbx h2 (h3 hc.2.1),h1,h5,h6⟩
 ·exact absurd hc.2.1 h0
theorem zwd (hm:Mine w W g ρ N d) (hN:N<=999999000) (hc:Calm d) :
  Calls Tryz.prog 123 #[.pointer (some ⟨g,0,none⟩)] W fun e W'=>e = .returned (.int .i64 0)/\∃ ρ' d',Mine w W' g ρ' (N+1) d'/\Calm d'/\Fl d d'/\Keep (fun k=>ρ k=none) W W'/\∀ k,ρ' k≠none->ρ k≠none\/W.heap.size<=k:=by
 have hsz:64<=d.safe.length:=by obtain⟨_,_,_,h⟩:=hm.dv;exact h.size.1
 rcases zcg (zde hc) (by omega) with⟨d',e1,h1,h2,h3⟩|⟨h0,_⟩
 ·refine(zhi hm hN).mono ?_;rintro e W' ⟨rfl,⟨ρ',h4,h6⟩,h5⟩;rw[e1]at h4 ⊢;exact⟨rfl,ρ',d',h4,zbx h2 (h3 hc.2.1),h1,h5,h6⟩
 ·exact absurd hc.2.1 h0
theorem zxm (hm:Mine w W g ρ N d) (hN:N<=999999000) (hc:Calm d) (n:Int) (hn:0<=n/\n<d.safe.length) :
  Calls Tryz.prog 108 #[.pointer (some ⟨g,0,none⟩),.int .i64 n] W fun e W'=>
   ∃ k,e = .returned (.tuple #[.slice (some ⟨k,0,none⟩) 512 512,.int .i64 0])/\W.heap.size<=k/\W'.heap[k]? = some (.cells (bvs (curF d n)).toArray 85 (0,0))/\(curF d n).length=512/\
   ∃ d',Mine w W' g ρ (N+1) d'/\Calm d'/\Same d d'/\Keep (fun k=>k≠g) W W':=by
 have hsz:d.safe.length<=512:=by obtain⟨_,_,_,h⟩:=hm.dv;exact h.size.2
 rcases zfj (zde hc) hn with⟨d',e1,h1,h2,h3⟩|⟨h0,_⟩
 ·refine(zuj hm hN n (by omega)).mono ?_;rintro e W' ⟨h4,h5,h6⟩;rw[e1]at h4 h5;rcases h4 with⟨h,_⟩|⟨_,h7,k,h8,h9,h10⟩
  ·exact absurd rfl h
  ·exact⟨k,h8,h9,h10,h7,d',h5,zbx h2 (h3 hc.2.1),h1,h6⟩
 ·exact absurd hc.2.1 h0
theorem zr8 {W1 W2:World} (hk:Keep (fun k=>ρ k=none) W1 W2) {k:Nat}{x:Obj} (hr:W1.heap[k]? = some x) (hρ:ρ k=none):W2.heap[k]? = some x:=(hk.block k hρ (blt hr)).trans hr
theorem yy {W1 W2:World} (hx:Ext W1 W2) {k:Nat}{x:Obj} (hr:W1.heap[k]? = some x):W2.heap[k]? = some x:=(Below.block hx k (blt hr)).trans hr
end
theorem zbz {W:World}{k:Nat}{b:List UInt8}{t:TypeId} (h:W.heap[k]? = some (.cells (bvs b).toArray t (0,0))) (hl:b.length=512):RdB W (.slice (some ⟨k,0,none⟩) 512 512) b:=zaq h 512 hl.symm (by omega)
end
end Go.Proofs.YtnadlnmclameiaaGreatDoor
