/- part 21 -/
import Derived.Test.YtnadlnmclameiaaGreatDoorTS20
set_option maxRecDepth 100000
set_option maxHeartbeats 8000000
set_option linter.all false
namespace Go.Proofs.YtnadlnmclameiaaGreatDoor
section
open Go.RowKit
def nbN (n:Nat):Nat:=(n+511) / 512
theorem nb_nbN (n:Nat):nb (n:Int)=(nbN n:Int):=by unfold nb nbN;omega
def locs (q:Nat):List Int:=(List.range q).map fun (i:Nat)=>(i:Int)
theorem locs_len (q:Nat):(locs q).length=q:=by simp[locs]
theorem zkn (q i:Nat) (h:i<q):(locs q)[i]? = some (i:Int):=by simp[locs,h]
theorem zl1 (q:Nat):locs q=zm [((0:Int),(q:Int))]:=by
 rw[jm];unfold locs;exact List.map_congr_left fun i _=>by omega
theorem zgo (q:Nat):z8 (locs q)=if q=0 then [] else [((0:Int),(q:Int))]:=by
 by_cases h:q=0
 ·subst h;rfl
 ·rw[if_neg h,zl1];have:=zhz [] 0 q (by omega);rw[List.nil_append]at this;rw[this];rfl
theorem zsz (q k:Nat):locs (q+k)=locs q++zm [((q:Int),(k:Int))]:=by
 rw[jm];unfold locs;rw[List.range_add,List.map_append,List.map_map];congr 1
theorem zdb (s:Nat) (h:s<=32768):NodeOk (s:Int) (locs (nbN s)):=
 ⟨by omega,by omega,by rw[locs_len,nb_nbN],fun b hb=>by
  unfold locs at hb;obtain⟨i,hi,rfl⟩:=List.mem_map.1 hb;have:=List.mem_range.1 hi;unfold nbN at this;omega⟩
def magicF:List UInt8:=[102,105,108,101,115]
def segN:List UInt8:=[115,101,103,46,48]
def dirL:Option Nat->List UInt8
 | none=>magicF++putU 0
 | some s=>magicF++putU 1++putT segN++xu (s:Nat) (locs (nbN s))
theorem zav (o:Option Nat):(dirL o).length<=100:=by
 cases o with
 | none=>
  have:=zq 0;show (magicF++putU 0).length<=100;rw[List.length_append,show magicF.length=5 from rfl];omega
 | some s=>
  have h1:=zq 1;have h2:=zq segN.length;have h3:=zq ((s:Nat):Int).toNat;have h4:=zq (z8 (locs (nbN s))).length;have h5:=zib (z8 (locs (nbN s)));have h6:(z8 (locs (nbN s))).length<=1:=by rw[zgo];split <;> simp
  show (magicF++putU 1++putT segN++xu (s:Nat) (locs (nbN s))).length<=100;unfold putT xu;simp only[List.length_append,show magicF.length=5 from rfl,show segN.length=5 from rfl]at h2 ⊢;omega
def dirB (o:Option Nat):List UInt8:=dirL o++List.replicate (8192-(dirL o).length) 0
theorem vk (o:Option Nat):(dirB o).length=8192:=by
 have:=zav o;unfold dirB;rw[List.length_append,List.length_replicate];omega
def yj (l:List UInt8) (n:Nat):Bk:=(l.drop (512*n)).take 512
theorem ziz {l:List UInt8}{n:Nat} (h:512*n+512<=l.length):(yj l n).length=512:=by
 unfold yj;rw[List.length_take,List.length_drop];omega
theorem zoo (l:List UInt8) (n:Nat):l.take (512*n)++yj l n=l.take (512*n+512):=by
 unfold yj;rw[List.take_add]
def ye (was now:List UInt8) (k:Nat):List JW:=(List.range k).filterMap fun n=>if yj was n=yj now n then none else some ((n:Int),yj now n)
theorem zfq {was now:List UInt8}{k:Nat} (h:yj was k=yj now k):ye was now (k+1)=ye was now k:=by
 unfold ye;rw[List.range_succ,List.filterMap_append];simp[h]
theorem zgm {was now:List UInt8}{k:Nat} (h:yj was k≠yj now k):ye was now (k+1)=ye was now k++[((k:Int),yj now k)]:=by
 unfold ye;rw[List.range_succ,List.filterMap_append];simp[h]
theorem zfs (was now:List UInt8) : ∀ k,(ye was now k).length<=k:=fun k=>by
 have:=List.length_filterMap_le (fun (n:Nat)=>if yj was n=yj now n then none else some ((n:Int),yj now n)) (List.range k);rw[List.length_range]at this;exact this
theorem zfr {was now:List UInt8}{k:Nat}{p:JW} (h:p∈ye was now k) : ∃ n,n<k/\p=((n:Int),yj now n):=by
 obtain⟨n,h1,h2⟩:=List.mem_filterMap.1 h;refine⟨n,List.mem_range.1 h1,?_⟩;split at h2
 ·cases h2
 ·exact(Option.some.inj h2).symm
theorem zdl (p:JW) : ∀ (ws:List JW) (i:Int) (c:Int->Bk) (j:Int),ya 0 (ws++[p]) i c j=if j=20+p.1 then p.2 else ya 0 ws i c j
 | [],i,c,j=>by
  show (if j=posF 0 p i then p.2 else c j)=_;unfold posF;rw[if_pos rfl];rfl
 | q :: ws,i,c,j=>zdl p ws (i+1) _ j
theorem bg (was now:List UInt8) (C:Int->Bk) (h : ∀ n:Nat,n<16->C (20+n)=yj was n) : ∀ k:Nat,k<=16->
  (∀ n:Nat,n<k->ya 0 (ye was now k) 0 C (20+n)=yj now n)/\(∀ j:Int,(∀ n:Nat,n<k->j≠20+n)->ya 0 (ye was now k) 0 C j=C j)
 | 0,_=>⟨fun n hn=>absurd hn (by omega),fun j _=>rfl⟩
 | k+1,hk=>by
  obtain⟨h1,h2⟩:=bg was now C h k (by omega);by_cases e:yj was k=yj now k
  ·rw[zfq e];refine⟨fun n hn=>?_,fun j hj=>h2 j fun n hn=>hj n (by omega)⟩;by_cases hnk:n<k
   ·exact h1 n hnk
   ·obtain rfl:n=k:=by omega
    rw[h2 _ fun m hm=>by omega,h n (by omega),e]
  ·rw[zgm e];refine⟨fun n hn=>?_,fun j hj=>?_⟩
   ·rw[zdl];by_cases hnk:n=k
    ·subst hnk;exact if_pos rfl
    ·rw[if_neg (by dsimp only;omega)];exact h1 n (by omega)
   ·rw[zdl,if_neg (hj k (by omega))];exact h2 j fun n hn=>hj n (by omega)
theorem zcz (was now:List UInt8) (h:now.length=8192):WsIn 64 (ye was now 16):=by
 refine⟨⟨zfs was now 16,fun p hp=>?_⟩,fun p hp=>?_⟩
 ·obtain⟨n,hn,rfl⟩:=zfr hp;exact⟨by show (0:Int)<=(n:Int);omega,by show (n:Int)<=_;omega,ziz (by omega)⟩
 ·obtain⟨n,hn,rfl⟩:=zfr hp;show (n:Int)<_;omega
def pre (b:List UInt8) (m n:Nat):Bk:=(b.drop (512*n)).take (min 512 (m-512*n))
theorem zsk (b:List UInt8) {m m':Nat} (n:Nat) (h:m<=m'):pre b m n <+: pre b m' n:=by
 have e:pre b m n=(pre b m' n).take (min 512 (m-512*n)):=by unfold pre;rw[List.take_take,show min (min 512 (m-512*n)) (min 512 (m'-512*n))=min 512 (m-512*n) by omega]
 rw[e];exact List.take_prefix _ _
theorem zmw {b:List UInt8}{m n:Nat} (h:m<=b.length):(pre b m n).length=min 512 (m-512*n):=by
 unfold pre;rw[List.length_take,List.length_drop];omega
theorem zsl {b:List UInt8}{m m' n:Nat} (h:512*n+512<=m) (h':m<=m'):pre b m n=pre b m' n:=by
 unfold pre;rw[show min 512 (m-512*n)=min 512 (m'-512*n) by omega]
theorem zmx {b d:List UInt8}{m n:Nat} (h:m<=b.length):pre (b++d) m n=pre b m n:=by
 unfold pre;by_cases h1:512*n<=b.length
 ·rw[List.drop_append_of_le_length h1,List.take_append_of_le_length (by rw[List.length_drop];omega)]
 ·rw[show min 512 (m-512*n)=0 by omega];rfl
theorem zp8 {b X:List UInt8}{m n:Nat} (h:pre b m n <+: X) (hm:m<=b.length):X.take (min 512 (m-512*n))=pre b m n:=by
 rw[<-zmw hm];exact(List.prefix_iff_eq_take.1 h).symm
theorem zvc {b old:List UInt8}{m k:Nat} (hm:m<=b.length) (hk:k=min (512-m % 512) (b.length-m)) (ho:old.length=512) (hp:m % 512≠0->pre b m (m / 512) <+: old) :
  pre b (m+k) (m / 512) <+: old.take (m % 512)++(b.drop m).take k++old.drop (m % 512+k)/\(old.take (m % 512)++(b.drop m).take k++old.drop (m % 512+k)).length=512:=by
 have hd:512*(m / 512)+m % 512=m:=Nat.div_add_mod m 512;have h5:m % 512<512:=Nat.mod_lt _ (by omega);have e1:old.take (m % 512)=(b.drop (512*(m / 512))).take (m % 512):=by
  by_cases h0:m % 512=0
  ·rw[h0];rfl
  ·have:=zp8 (hp h0) hm;unfold pre at this;rw[show min 512 (m-512*(m / 512))=m % 512 by omega]at this;exact this
 refine⟨⟨old.drop (m % 512+k),?_⟩,?_⟩
 ·congr 1
  rw[e1];unfold pre;rw[show min 512 (m+k-512*(m / 512))=m % 512+k by omega,List.take_add,List.drop_drop,hd]
 ·simp only[List.length_append,List.length_take,List.length_drop];omega
structure FsHome (H:Int->Bk) (B:Option (List UInt8)):Prop where
 dir : ∀ j:Nat,j<16->H (20+j)=yj (dirB (B.map List.length)) j
 small : ∀ b,B=some b->b.length<=8192
 data : ∀ b,B=some b->∀ i:Nat,i<nbN b.length->pre b b.length i <+: H (36+i)
theorem zah {n:Nat} (h:n<=8192):nbN n<=16:=by unfold nbN;omega
theorem FsHome.cur {H H':Int->Bk}{B:Option (List UInt8)} (h:FsHome H B) (he : ∀ j:Int,20<=j->j<64->H' j=H j):FsHome H' B:=
 ⟨fun j hj=>(he _ (by omega) (by omega)).trans (h.dir j hj),h.small,fun b hb i hi=>by
  have:=zah (h.small b hb);rw[he _ (by omega) (by omega)];exact h.data b hb i hi⟩
theorem FsHome.put {s s':Int->Bk}{B:Option (List UInt8)} (h:FsHome s B) (n:Nat) (x:Bk) (he : ∀ j:Int,j≠36+n->s' j=s j) (hx:s' (36+n)=x) (hp : ∀ b,B=some b->n<nbN b.length->pre b b.length n <+: x):FsHome s' B:=
 ⟨fun j hj=>(he _ (by omega)).trans (h.dir j hj),h.small,fun b hb i hi=>by
  by_cases e:i=n
  ·subst e;rw[hx];exact hp b hb hi
  ·rw[he _ (by omega)];exact h.data b hb i hi⟩
theorem FsHome.commit {C:Int->Bk}{D:Option Nat}{b:List UInt8} (hd : ∀ j:Nat,j<16->C (20+j)=yj (dirB D) j) (hb:b.length<=8192) (hp : ∀ i:Nat,i<nbN b.length->pre b b.length i <+: C (36+i)) :
  FsHome (ya 0 (ye (dirB D) (dirB (some b.length)) 16) 0 C) (some b):=by
 obtain⟨h1,h2⟩:=bg (dirB D) (dirB (some b.length)) C hd 16 (Nat.le_refl _);refine⟨fun j hj=>h1 j hj,fun b' e=>by cases e;exact hb,fun b' e i hi=>?_⟩;cases e;rw[h2 _ fun n hn=>by omega];exact hp i hi
theorem FsHome.first {C:Int->Bk} (was:List UInt8) (hd : ∀ j:Nat,j<16->C (20+j)=yj was j):FsHome (ya 0 (ye was (dirB none) 16) 0 C) none:=by
 obtain⟨h1,-⟩:=bg was (dirB none) C hd 16 (Nat.le_refl _);exact⟨fun j hj=>h1 j hj,fun b e=>(by cases e),fun b e=>(by cases e)⟩
def FsImg (m:Nat) (s:Int->Bk) (B:Option (List UInt8)):Prop:=∃ n H res,n<=m/\St 64 s n H res/\WsIn 64 (res.getD [])/\FsHome (Hn H res) B
theorem FsImg.more {m m':Nat}{s:Int->Bk}{B:Option (List UInt8)} (h:FsImg m s B) (hm:m<=m'):FsImg m' s B:=by
 obtain⟨n,H,res,h1,h2⟩:=h;exact⟨n,H,res,by omega,h2⟩
theorem FsImg.done {n m:Nat}{s H:Int->Bk}{B:Option (List UInt8)} (h:LogS 64 s n H) (hf:FsHome H B) (hn:n<=m):FsImg m s B:=⟨n,H,none,hn,.inl ⟨rfl,h⟩,zjj 64,hf⟩
theorem FsImg.wait {n m:Nat}{s C:Int->Bk}{ws:List JW}{B:Option (List UInt8)} (h:WaitS 64 s n ws C) (hw:WsIn 64 ws) (hf:FsHome (ya 0 ws 0 C) B) (hn:n<=m):FsImg m s B:=⟨n,C,some ws,hn,.inr ⟨ws,rfl,h⟩,hw,hf⟩
end
def flat (rs:List (Nat × Nat)):List Nat:=rs.flatMap fun r=>List.range' r.1 r.2
def Canon (rs:List (Nat × Nat)):Prop:=(∀ r∈rs,1<=r.2)/\rs.Pairwise fun r s=>r.1+r.2<s.1
def xl (now last:List Bool) (i:Nat):Bool:= !(now.getD i true) && !(last.getD i true)
def yt (now last:List Bool) (n:Nat):List Nat:=(List.range n).filter (xl now last)
def qo (now last:List Bool):List Nat:=yt now last now.length
theorem zch:flat []=[]:=rfl
theorem xw (a b:List (Nat × Nat)):flat (a++b)=flat a++flat b:=by simp[flat]
theorem jl (r:Nat × Nat):flat [r]=List.range' r.1 r.2:=by simp[flat]
theorem zak {now last:List Bool}{n:Nat} (h:xl now last n=false):yt now last (n+1)=yt now last n:=by
 unfold yt;rw[List.range_succ,List.filter_append];simp[h]
theorem zeb {now last:List Bool}{n:Nat} (h:xl now last n=true):yt now last (n+1)=yt now last n++[n]:=by
 unfold yt;rw[List.range_succ,List.filter_append];simp[h]
theorem zja {now last:List Bool}{n:Nat} : ∀ k,(∀ j,j<k->xl now last (n+j)=true)->yt now last (n+k)=yt now last n++List.range' n k:=by
 intro k;induction k with
 | zero=>intro _;simp
 | succ k ih=>
  intro h;rw[<-Nat.add_assoc,zeb (h k (by omega)),ih fun j hj=>h j (by omega),List.range'_concat,List.append_assoc];simp
theorem zbt {now last:List Bool}{n:Nat} (h:now.length<=n):xl now last n=false:=by
 unfold xl;rw[List.getD_eq_getElem?_getD,List.getElem?_eq_none h];rfl
theorem zjb {now last:List Bool}{n i:Nat}:i∈yt now last n↔i<n/\xl now last i=true:=by
 unfold yt;rw[List.mem_filter,List.mem_range]
theorem zgc {now last:List Bool}{n m:Nat} (h:n<=m):yt now last n <+: yt now last m:=by
 obtain⟨k,rfl⟩ : ∃ k,m=n+k:=⟨m-n,by omega⟩
 induction k with
 | zero=>exact List.prefix_refl _
 | succ k ih=>
  refine(ih (by omega)).trans ?_;rw[<-Nat.add_assoc];cases hf:xl now last (n+k) with
  | false=>rw[zak hf];exact List.prefix_refl _
  | true=>rw[zeb hf];exact List.prefix_append _ _
structure Upto (now last:List Bool) (n:Nat) (rs:List (Nat × Nat)):Prop where
 canon:Canon rs
 flat:flat rs=yt now last n
 gap : ∀ r∈rs,r.1+r.2<n
theorem Upto.zero (now last:List Bool):Upto now last 0 []:=⟨⟨by simp,List.Pairwise.nil⟩,rfl,by simp⟩
theorem Upto.skip {now last:List Bool}{n:Nat}{rs:List (Nat × Nat)} (h:Upto now last n rs) (hf:xl now last n=false):Upto now last (n+1) rs:=
 ⟨h.canon,h.flat.trans (zak hf).symm,fun r hr=>by have:=h.gap r hr;omega⟩
def zlc (now last:List Bool) (rs:List (Nat × Nat)):Prop:=Canon rs/\flat rs <+: qo now last/\(∀ r∈rs,r.1+r.2<=now.length)
theorem Canon.snoc {rs:List (Nat × Nat)} (h:Canon rs) {n k:Nat} (hk:1<=k) (hg : ∀ r∈rs,r.1+r.2<n):Canon (rs++[(n,k)]):=by
 refine⟨fun r hr=>?_,List.pairwise_append.2 ⟨h.2,List.pairwise_singleton _ _,fun a ha b hb=>?_⟩⟩
 ·rcases List.mem_append.1 hr with hr|hr
  ·exact h.1 r hr
  ·rw[List.mem_singleton.1 hr];exact hk
 ·rw[List.mem_singleton.1 hb];exact hg a ha
theorem Upto.run {now last:List Bool}{n k:Nat}{rs:List (Nat × Nat)} (h:Upto now last n rs) (hk:1<=k) (hf : ∀ j,j<k->xl now last (n+j)=true) (hn:xl now last (n+k)=false) :
  Upto now last (n+k+1) (rs++[(n,k)])/\zlc now last (rs++[(n,k)]):=by
 have hc:=h.canon.snoc hk h.gap;have hfl:Go.Proofs.YtnadlnmclameiaaGreatDoor.flat (rs++[(n,k)])=yt now last (n+k):=by rw[xw,jl,h.flat,zja k hf]
 have hlen:n+k<=now.length:=by
  rcases Nat.lt_or_ge (n+(k-1)) now.length with hl|hl
  ·omega
  ·have:=hf (k-1) (by omega);rw[zbt hl]at this;cases this
 refine⟨⟨hc,by rw[hfl,zak hn],fun r hr=>?_⟩,hc,?_,fun r hr=>?_⟩
 ·rcases List.mem_append.1 hr with hr|hr
  ·have:=h.gap r hr;omega
  ·rw[List.mem_singleton.1 hr];show n+k<n+k+1;omega
 ·rw[hfl];exact zgc hlen
 ·rcases List.mem_append.1 hr with hr|hr
  ·have:=h.gap r hr;omega
  ·rw[List.mem_singleton.1 hr];exact hlen
def znb (now last:List Bool) (rs:List (Nat × Nat)):Prop:=Canon rs/\flat rs=qo now last/\(∀ r∈rs,r.1+r.2<=now.length)
theorem zdd {now last:List Bool} : ∀ k,yt now last (now.length+k)=qo now last:=by
 intro k;induction k with
 | zero=>rfl
 | succ k ih=>rw[<-Nat.add_assoc,zak (zbt (by omega)),ih]
theorem Upto.all {now last:List Bool}{n:Nat}{rs:List (Nat × Nat)} (h:Upto now last n rs) (hn:now.length<=n):znb now last rs:=by
 obtain⟨k,rfl⟩ : ∃ k,n=now.length+k:=⟨n-now.length,by omega⟩
 refine⟨h.canon,h.flat.trans (zdd k),fun r hr=>?_⟩;have h1:=h.canon.1 r hr;have h2:r.1+(r.2-1)∈yt now last (now.length+k):=by
  rw[<-h.flat];refine List.mem_flatMap.2 ⟨r,hr,List.mem_range'.2 ⟨r.2-1,by omega,by omega⟩⟩
 rw[zdd]at h2;have:=(zjb.1 h2).1;omega
theorem ze0 : ∀ {a b:List (Nat × Nat)},Canon a->Canon b->flat a=flat b->a=b:=by
 intro a;induction a with
 | nil=>
  intro b _ hb h;cases b with
  | nil=>rfl
  | cons r l=>
   have h1:=hb.1 r List.mem_cons_self;rw[zch,show flat (r :: l)=List.range' r.1 r.2++flat l from rfl]at h;have:=congrArg List.length h;simp at this;omega
 | cons r l ih=>
  intro b ha hb h;cases b with
  | nil=>
   have h1:=ha.1 r List.mem_cons_self;rw[zch,show flat (r :: l)=List.range' r.1 r.2++flat l from rfl]at h;have:=congrArg List.length h;simp at this;omega
  | cons s m=>
   obtain⟨a0,k⟩:=r;obtain⟨b0,j⟩:=s;have h1:=ha.1 _ List.mem_cons_self;have h2:=hb.1 _ List.mem_cons_self;dsimp only at h1 h2;have e1:flat ((a0,k) :: l)=List.range' a0 k++flat l:=rfl;have e2:flat ((b0,j) :: m)=List.range' b0 j++flat m:=rfl;rw[e1,e2]at h;have hla : ∀ x∈flat l,a0+k<x:=fun x hx=>by
    obtain⟨r,hr,hx⟩:=List.mem_flatMap.1 hx;obtain⟨i,hi,rfl⟩:=List.mem_range'.1 hx;have:=(List.pairwise_cons.1 ha.2).1 r hr;dsimp only at this;omega
   have hlb : ∀ x∈flat m,b0+j<x:=fun x hx=>by
    obtain⟨r,hr,hx⟩:=List.mem_flatMap.1 hx;obtain⟨i,hi,rfl⟩:=List.mem_range'.1 hx;have:=(List.pairwise_cons.1 hb.2).1 r hr;dsimp only at this;omega
   have hget : ∀ i:Nat,(List.range' a0 k++flat l)[i]? = (List.range' b0 j++flat m)[i]?:=fun i=>by rw[h]
   have h0:=hget 0;rw[List.getElem?_append_left (by simp;omega),List.getElem?_append_left (by simp;omega),List.getElem?_range' (by omega),List.getElem?_range' (by omega)]at h0;obtain rfl:a0=b0:=by simpa using h0
   have hkj:k=j:=by
    rcases Nat.lt_trichotomy k j with hlt|he|hlt
    ·have hk:=hget k;rw[List.getElem?_append_right (by simp),List.getElem?_append_left (by simp;omega),List.getElem?_range' (by omega)]at hk;simp only[List.length_range',Nat.sub_self]at hk;have hm:=List.mem_of_getElem? hk;have:=hla _ hm;omega
    ·exact he
    ·have hk:=hget j;rw[List.getElem?_append_left (by simp;omega),List.getElem?_append_right (by simp),List.getElem?_range' (by omega)]at hk;simp only[List.length_range',Nat.sub_self]at hk;have hm:=List.mem_of_getElem? hk.symm;have:=hlb _ hm;omega
   subst hkj;have ht:flat l=flat m:=List.append_cancel_left h;rw[ih ⟨fun r hr=>ha.1 r (List.mem_cons_of_mem _ hr),(List.pairwise_cons.1 ha.2).2⟩ ⟨fun r hr=>hb.1 r (List.mem_cons_of_mem _ hr),(List.pairwise_cons.1 hb.2).2⟩ ht]
section
open Go.RowKit
theorem kv {w:World}{g o:Nat}{c:Array Value}{t:TypeId}{f:Nat × Nat} (h:w.heap[g]? = some (.cells c t f)) (u:Value):(w.setCell ⟨g,o,none⟩ u).heap[g]? = some (.cells (c.setIfInBounds o u) t f):=by
 simp[World.setCell,Array.getElem?_modify,h]
theorem yp {w:World}{g:Nat}{c:Array Value}{t:TypeId} (h:w.heap[g]? = some (.cells c t (0,0))) (o:Nat):w.frozen? ⟨g,o,none⟩=false:=by simp[World.frozen?,h]
theorem x9 (w:World) (o:Obj):(w.alloc o).heap.size=w.heap.size+1:=by simp
theorem xf (w:World) (p:Addr) (v:Value):(w.setCell p v).heap.size=w.heap.size:=by simp[World.setCell]
theorem zks:(Tryz.prog.info? 4).map (fun i=>(i.zero,i.size,i.bytes))=some (some (.bool false),1,1):=by kernel_rfl
theorem RdS.alsrc {α:Type}{r:Rdr α}{w:World}{S:Nat->Prop}{v:Value}{xs:List α}{tx t:TypeId} (hu:Tryz.prog.underlying tx=some (.slice t)) (h:RdS r w S v xs) : ∃ gs:List (List Value × α),xs=gs.map (·.2)/\Src Tryz.prog r.size tx v gs.length (cellsOf gs) w/\∀ p∈gs,r.rd w S p.1 p.2:=by
 obtain⟨v',gs,e,rfl,h1,h2,h3⟩:=h;obtain rfl:=List.singleton_inj.1 e;refine⟨gs,rfl,zb5 hu h1 (fun u hu=>?_),h3⟩;obtain⟨p,hp,hu⟩:=List.mem_flatMap.1 hu;exact r.one (h3 p hp) u hu
theorem OwnS.almade {α:Type} (r:Rdr α) (t:TypeId) (w:World) (S:Nat->Prop) (hS : ¬ S w.heap.size):OwnS r t (w.alloc (.cells #[] t)) w.heap.size S (.slice (some ⟨w.heap.size,0,none⟩) 0 0) []:=
 ⟨[],rfl,World.ownsRow_made w #[] 0 (Nat.le_refl _) (by simp[maxLen]) (by simp),fun k hk=>by simp only[Value.ownBlock,Option.map_some,Option.some.injEq]at hk;subst hk;exact hS,by simp⟩
theorem zg7 {α:Type} (gs:List (List Value × α)) (x:α) (u:Value):(∀ p∈gs,p.1.length=1)->∀ i,i<gs.length->cellsOf (gs.set i ([u],x))=(cellsOf gs).set i u:=by
 induction gs with
 | nil=>intro _ i hi;simp at hi
 | cons p gs ih=>
  intro h i hi;have hp:=h p (by simp);obtain⟨l,y⟩:=p;match l,hp with
  | [v],_=>
   cases i with
   | zero=>simp[cellsOf]
   | succ i=>
    have:=ih (fun q hq=>h q (by simp[hq])) i (by simpa using hi);simp only[cellsOf,List.set_cons_succ,List.flatMap_cons]at this ⊢;rw[this];rfl
theorem OwnS.set1 {α:Type}{r:Rdr α}{t:TypeId}{w:World}{base:Nat}{S:Nat->Prop}{g n cap:Nat}{xs:List α} (h:OwnS r t w base S (.slice (some ⟨g,0,none⟩) n cap) xs) (h1:r.size=1) (i:Nat) (hi:i<xs.length) (u:Value) (y:α)
  (hc:r.rd w S [u] y):OwnS r t (w.setCell ⟨g,i,none⟩ u) base S (.slice (some ⟨g,0,none⟩) n cap) (xs.set i y):=by
 obtain⟨gs,rfl,⟨h1',h2⟩,h3,h4⟩:=h;have hS : ¬ S g:=h3 g rfl;have hk:=(Keep.refl S w).setCell (p:=⟨g,i,none⟩) hS u;have hi':i<gs.length:=by simpa using hi
 have hlen : ∀ p∈gs,p.1.length=1:=fun p hp=>h1▸r.len (h4 p hp);rcases h2 with⟨h2,h2'⟩|⟨g',cap',cur,h2,hb,hg,hn,hm,hcs,hx⟩
 ·rw[h2']at hi';exact absurd hi' (Nat.not_lt_zero _)
 ·simp only[Value.slice.injEq,Option.some.injEq,Addr.mk.injEq]at h2;obtain⟨⟨rfl,-⟩,rfl,rfl⟩:=h2;refine⟨gs.set i ([u],y),?_,⟨?_,.inr ⟨g,cap,_,?_,hb,kv hg u,?_,hm,?_,?_⟩⟩,h3,fun p hp=>?_⟩
  ·rw[List.map_set]
  ·rw[zg7 gs _ u hlen i hi'];simpa using h1'
  ·rw[List.length_set]
  ·rw[List.length_set];exact hn
  ·simpa using hcs
  ·rw[zg7 gs _ u hlen i hi',List.length_set];simp only[Array.toList_setIfInBounds,List.take_set];rw[hx]
  ·rcases List.mem_or_eq_of_mem_set hp with hp|rfl
   ·exact Rdr.kept (h4 p hp) hk
   ·exact Rdr.kept hc hk
theorem zsf {w w':World}{S S':Nat->Prop}{cs:List Value}{b:Bool} (h:rBo.rd w S cs b):rBo.rd w' S' cs b:=h
theorem RdS.atB {w:World}{S:Nat->Prop}{v:Value}{xs:List Bool} (h:RdS rBo w S v xs) (i:Nat) (hi:i<xs.length) :
  ∃ g o cap,v = .slice (some ⟨g,o,none⟩) xs.length cap/\g<w.heap.size/\S g/\w.cell? ⟨g,o+i,none⟩=some (.bool xs[i]):=by
 obtain⟨g,o,cap,cs,rfl,hg,hS,_,hc,hr⟩:=h.at i hi;obtain rfl:cs=[.bool xs[i]]:=hr;refine⟨g,o,cap,rfl,hg,hS,?_⟩;have:=hc 0 _ rfl;simpa[rBo] using this
theorem xy (w:World) (S:Nat->Prop) (v:Value) (fs:List Bool) (h:RdS rBo w S v fs) (hl:fs.length<=1000000) :
  Calls Tryz.prog 145 #[v] w fun e w'=>∃ v',e = .returned v'/\OwnS rBo 4 w' w.heap.size (fun _=>False) v' fs/\Ext w w':=by
 have hnil:=fun w=>Lib.run_eql_slice_nil (P:=Tryz.prog) w;obtain⟨a,cap,rfl,hc1,hc2⟩:=h.slice;have H:=hid h;cases a with
 | none=>
  have h0:fs=[]:=by
   cases fs with
   | nil=>rfl
   | cons f fs=>obtain⟨g,o,cap',cs,e,_⟩:=h.at 0 (by simp);simp at e
  subst h0;clear h;go_enter Tryz.func145,Tryz.ntmps145;go_wp2_with fail;go_ret;exact⟨_,rfl,OwnS.nil _ _ _ _ _,Ext.refl _⟩
 | some a=>
  obtain⟨gs,hgs,hsrc,hall⟩:=(h.ext ((Ext.refl w).alloc (.cells #[] 4))).alsrc Tryz.underlying199;have HG:=hid hgs;have hgl:gs.length=fs.length:=by rw[hgs,List.length_map]
  have HSRC:=hid hsrc;have HALL:=hid hall;have HGL:=hid hgl;have HA:=OwnS.almade rBo 4 w (fun _=>False) (fun h=>h);clear h hgs hsrc hall hgl;go_enter Tryz.func145,Tryz.ntmps145;go_wp2_with (at_builtin;go_must (refine vw rBo rfl _ _ _ _ _ _ 1 rfl Tryz.underlying199 zks rfl w.heap.size _ _ [] rfl HA _ gs rfl HSRC.out (fun p hp=>zsf (HALL.out p hp)) (fun _ h=>h.elim) (by rw[HGL.out];simp;omega) (by rw[HGL.out];simp;omega) (by simp) ?_;intro v' w' k1 k2 k3;rw[List.nil_append,<-HG.out]at k1))
  go_ret;exact⟨_,rfl,k1,((Ext.refl w).alloc _).grown k2 (fun k hk=>by cases hk;exact Nat.le_refl _)⟩
theorem zs7 (w:World) (bn bl:Nat) (vn vl:Value) (now last:List Bool) (S:Nat->Prop) (hn:w.cell? ⟨bn,0,none⟩=some vn) (hl:w.cell? ⟨bl,0,none⟩=some vl) (hrn:RdS rBo w S vn now) (hrl:RdS rBo w S vl last) (hlen:last.length=now.length) (n:Nat) (hnb:n<=1000000) (hlb:now.length<=1000000) :
  Calls Tryz.prog 166 #[.int .i64 n,.pointer (some ⟨bn,0,none⟩),.pointer (some ⟨bl,0,none⟩)] w fun e w'=>e = .returned (.bool (xl now last n))/\w=w':=by
 by_cases h:n<now.length
 ·have hfr:xl now last n=(!now[n] && !(last[n]'(by omega))):=by
   unfold xl;rw[List.getD_eq_getElem?_getD,List.getD_eq_getElem?_getD,List.getElem?_eq_getElem h,List.getElem?_eq_getElem (by omega:n<last.length)];rfl
  obtain⟨g1,o1,c1,rfl,hg1,-,z1⟩:=hrn.atB n h;obtain⟨g2,o2,c2,rfl,hg2,-,z2⟩:=hrl.atB n (by omega);rw[hlen]at hl;rw[hfr];generalize now[n]=p1 at z1 ⊢;generalize last[n]'(by omega)=p2 at z2 ⊢;have HRN:=hid hrn;have HRL:=hid hrl;clear hrn hrl hfr;cases p1 <;> cases p2;all_goals
   go_enter Tryz.func166,Tryz.ntmps166;go_wp2_with fail;go_ret;exact⟨rfl,rfl⟩
 ·have hfr:=zbt (now:=now) (last:=last) (by omega:now.length<=n);obtain⟨a1,c1,rfl,-,-⟩:=hrn.slice;rw[hfr];clear hrn hrl hfr;go_enter Tryz.func166,Tryz.ntmps166;go_wp2_with fail;go_ret;exact⟨rfl,rfl⟩
end
end Go.Proofs.YtnadlnmclameiaaGreatDoor
