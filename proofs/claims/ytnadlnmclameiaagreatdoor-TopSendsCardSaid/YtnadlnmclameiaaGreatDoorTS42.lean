/- part 42 -/
import Derived.Test.YtnadlnmclameiaaGreatDoorTS41
import Derived.Test.YtnadlnmclameiaaGreatDoorRows
import Derived.Deep.Slices
import Derived.Deep.CondSized
import Derived.ChangeSame
import Derived.SliceStrings
set_option maxRecDepth 100000
set_option maxHeartbeats 8000000
set_option linter.all false
namespace Go.Proofs.YtnadlnmclameiaaGreatDoor
section
open Go.RowKit
theorem zq4 (s:ByteArray) : ∀ (l:List Ev) (x:Ix) (n:Int) (e:Ent),e∈(vj s x n l).all->e∈x.all\/e.2.2.2∈l:=by
 intro l;induction l with
 | nil=>intro x n e h;exact .inl h
 | cons a l ih=>
  intro x n e h;rcases ih _ _ e h with h|h
  ·have h':e∈x.all++[((x.all.length:Int),s,n,a)]:=h;rcases List.mem_append.1 h' with h|h
   ·exact .inl h
   ·right;rw[List.mem_singleton.1 h];simp
  ·exact .inr (List.mem_cons_of_mem _ h)
theorem Reach.flds {x:Ix} (h:Reach x) : ∀ e∈x.all,e.2.2.2.2.2.length<=16:=by
 induction h with
 | zero=>intro e he;simp[ix0]at he
 | @add x b hr h0 ih=>
  intro e he;obtain⟨s,k,f,l⟩:=b;unfold addF at he h0;split at he
  ·exact ih e he
  rename_i h1
  rw[if_neg h1]at h0;split at he
  ·exact ih e he
  rename_i h2
  rw[if_neg h2]at h0;split at he
  ·exact ih e he
  rename_i h3
  split at he
  ·exact ih e he
  have hl:=zab (by simpa using h3);have hk:(ji x k s f l.length).all=x.all:=by unfold ji;split <;> rfl
  rcases zq4 _ _ _ _ e he with h|h
  ·exact ih e (by rw[<-hk];exact h)
  ·have:=hl.1 _ h;unfold evOk at this;simp only[Bool.and_eq_true,decide_eq_true_eq]at this;exact this.1.1.2
end
section
open Go.RowKit
def frsB (bs:List Bat):List (UInt8 × List UInt8):=bs.map fun b=>((1:UInt8),putBat b)
def filB (bs:List Bat):Option (List UInt8):=if bs=[] then none else some (stallF (frsB bs))
def ixB (bs:List Bat):Ix:=bs.foldl (fun x b=>(addF x b).1) ix0
theorem zev (bs:List Bat) (b:Bat):frsB (bs++[b])=frsB bs++[(1,putBat b)]:=by simp[frsB]
theorem zcf (bs:List Bat):(frsB bs).length=bs.length:=List.length_map ..
theorem zga (bs:List Bat) (b:Bat):ixB (bs++[b])=(addF (ixB bs) b).1:=by simp[ixB]
theorem ziv (bs:List Bat) (b:Bat):filB (bs++[b])=some ((filB bs).getD []++putF 1 (putBat b)):=by
 unfold filB;rw[if_neg (by simp),zev,zi4];by_cases h:bs=[]
 ·subst h;rfl
 ·rw[if_neg h];rfl
theorem zgf (bs:List Bat):(filB bs).getD []=stallF (frsB bs):=by
 unfold filB;by_cases h:bs=[]
 ·subst h;rfl
 ·rw[if_neg h];rfl
inductive GoodB:List Bat->Prop where
 | nil:GoodB []
 | snoc {bs:List Bat} (b:Bat):GoodB bs->putB b=(putBat b,0)->batI b->(addF (ixB bs) b).2=0->GoodB (bs++[b])
theorem GoodB.at {bs:List Bat} (h:GoodB bs) : ∀ i (hi:i<bs.length),putB bs[i]=(putBat bs[i],0)/\batI bs[i]/\(addF (ixB (bs.take i)) bs[i]).2=0:=by
 induction h with
 | nil=>intro i hi;simp at hi
 | snoc b h h1 h2 h3 ih=>
  rename_i bs
  intro i hi;by_cases hl:i<bs.length
  ·rw[List.getElem_append_left hl,List.take_append_of_le_length (by omega)];exact ih i hl
  ·have e:i=bs.length:=by rw[List.length_append,List.length_singleton]at hi;omega
   subst e;rw[List.getElem_append_right (Nat.le_refl _),List.take_append_of_le_length (Nat.le_refl _),List.take_length];simp only[Nat.sub_self,List.getElem_cons_zero];exact⟨h1,h2,h3⟩
theorem GoodB.reach {bs:List Bat} (h:GoodB bs):Reach (ixB bs):=by
 induction h with
 | nil=>exact Reach.zero
 | snoc b h h1 h2 h3 ih=>rw[zga];exact Reach.add b ih h3
theorem GoodB.take {bs:List Bat} (h:GoodB bs) : ∀ i,GoodB (bs.take i):=by
 induction h with
 | nil=>intro i;rw[List.take_nil];exact GoodB.nil
 | snoc b h h1 h2 h3 ih=>
  rename_i bs
  intro i;by_cases hl:i<=bs.length
  ·rw[List.take_append_of_le_length hl];exact ih i
  ·rw[List.take_of_length_le (by rw[List.length_append,List.length_singleton];omega)];exact GoodB.snoc b h h1 h2 h3
theorem zs1 (bs:List Bat) (i:Nat) (hi:i<bs.length):ixB (bs.take (i+1))=(addF (ixB (bs.take i)) bs[i]).1:=by
 rw[List.take_succ_eq_append_getElem hi,zga]
theorem zat (bs:List Bat):(ixB bs).all.length<=16*bs.length:=by
 have h : ∀ (l:List Bat) (x:Ix),(l.foldl (fun x b=>(addF x b).1) x).all.length<=x.all.length+16*l.length:=by
  intro l;induction l with
  | nil=>intro x;simp
  | cons b l ih=>
   intro x;have h1:=ih (addF x b).1;have h2:=(ztn x b).2;simp only[List.foldl_cons,List.length_cons];omega
 have:=h bs ix0;simpa[ixB,ix0] using this
theorem zhp {b:Bat} (h:putB b=(putBat b,0)):(putBat b).length<=2000:=by
 unfold putB at h;by_cases h1:xe b=false
 ·rw[if_pos h1]at h;simp at h
 ·rw[if_neg h1]at h;by_cases h2:b.2.2.2.all evOk=false
  ·rw[if_pos h2]at h;simp at h
  ·rw[if_neg h2]at h;by_cases h3:2000<(putBat b).length
   ·rw[if_pos h3]at h;simp at h
   ·omega
theorem GoodB.small {bs:List Bat} (h:GoodB bs) : ∀ f∈frsB bs,f.2.length<=2000:=by
 intro f hf;obtain⟨b,hb,rfl⟩:=List.mem_map.1 hf;obtain⟨i,hi,rfl⟩:=List.getElem_of_mem hb;exact zhp (h.at i hi).1
theorem zpl (fs:List (UInt8 × List UInt8)) (h : ∀ f∈fs,f.2.length<=2000):(stallF fs).length<=2015*fs.length:=by
 induction fs with
 | nil=>simp[stallF]
 | cons f fs ih=>
  have e:stallF (f :: fs)=putF f.1 f.2++stallF fs:=by simp[stallF]
  have h1:=ih fun g hg=>h g (by simp[hg]);have h2:=h f (by simp);have h3:=zq f.2.length;rw[e,List.length_append,ko,List.length_cons];omega
theorem GoodB.len {bs:List Bat} (h:GoodB bs):(stallF (frsB bs)).length<=2015*bs.length:=by
 have:=zpl (frsB bs) h.small;rw[zcf]at this;exact this
theorem zns {fs:List (UInt8 × List UInt8)} (h:fs≠[]):0<(stallF fs).length:=by
 cases fs with
 | nil=>exact absurd rfl h
 | cons f fs=>
  have e:stallF (f :: fs)=putF f.1 f.2++stallF fs:=by simp[stallF]
  rw[e,List.length_append,ko];omega
theorem zvu (bs:List Bat) : ∀ b,filB bs=some b->b≠[]:=by
 intro b hb e;subst e;unfold filB at hb;by_cases h:bs=[]
 ·rw[if_pos h]at hb;cases hb
 ·rw[if_neg h]at hb;have:=zns (fs:=frsB bs) (fun e=>h (by simpa[frsB] using e));rw[Option.some.inj hb]at this;simp at this
theorem zvt (bs:List Bat):nbD ((filB bs).map List.length)=nbN (stallF (frsB bs)).length:=by
 unfold filB;by_cases h:bs=[]
 ·subst h;rfl
 ·rw[if_neg h];rfl
def appB (bs:List Bat) (s:ByteArray) (n:Int) (k:ByteArray) (l:List Ev):Apd × (Nat × List Bat):=
 if (tryF (ixB bs) s n k l).2.2≠0\/(tryF (ixB bs) s n k l).1.2.2.2=true then ((tryF (ixB bs) s n k l).1,((tryF (ixB bs) s n k l).2.2,bs))
 else if (putB (tryF (ixB bs) s n k l).2.1).2≠0 then (app0,(110,bs))
 else ((tryF (ixB bs) s n k l).1,(0,bs++[(tryF (ixB bs) s n k l).2.1]))
theorem zmm {x:Ix}{s:ByteArray}{n:Int}{k:ByteArray}{l:List Ev} (h:(tryF x s n k l).2.2=0) (ha:(tryF x s n k l).1.2.2.2=false) :
  (tryF x s n k l).2.1=(s,k,((x.str s).length:Int),l)/\x.key k=none/\(addF x (tryF x s n k l).2.1).2=0:=by
 cases hk:x.key k with
 | some z=>
  exfalso;obtain⟨t,a⟩:=z;unfold tryF at h ha;rw[hk]at h ha;by_cases h1:kc s k=false
  ·rw[if_pos h1]at h;simp at h
  ·rw[if_neg h1]at h ha;dsimp only at h ha;by_cases h2:t≠s
   ·rw[if_pos h2]at h;simp at h
   ·rw[if_neg h2]at ha;simp at ha
 | none=>
  obtain⟨h1,h2,h3⟩:=zjq h hk;have h4:=zab h2;have hp:0<(tryF x s n k l).2.1.2.2.2.length:=by rw[h3];dsimp only;omega
  exact⟨by rw[h3],rfl,(zuw h hp).2⟩
theorem zif {b:Bat} (h:(putB b).2=0):putB b=(putBat b,0):=by
 unfold putB at h ⊢;by_cases h1:xe b=false
 ·rw[if_pos h1]at h;simp at h
 ·rw[if_neg h1]at h ⊢;by_cases h2:b.2.2.2.all evOk=false
  ·rw[if_pos h2]at h;simp at h
  ·rw[if_neg h2]at h ⊢;by_cases h3:2000<(putBat b).length
   ·rw[if_pos h3]at h;simp at h
   ·rw[if_neg h3]
theorem zhc (bs:List Bat) (s:ByteArray) (n:Int) (k:ByteArray) (l:List Ev) :
  (appB bs s n k l).2.2=bs\/∃ b,(appB bs s n k l).2.2=bs++[b]/\(appB bs s n k l).2.1=0/\b=(s,k,(((ixB bs).str s).length:Int),l)/\putB b=(putBat b,0)/\(addF (ixB bs) b).2=0/\(ixB bs).key k=none:=by
 unfold appB;split
 ·exact .inl rfl
 ·rename_i h1
  split
  ·exact .inl rfl
  ·rename_i h2
   refine .inr ⟨_,rfl,rfl,?_⟩;obtain⟨h3,h4,h5⟩:=zmm (x:=ixB bs) (s:=s) (n:=n) (k:=k) (l:=l) (by
    by_cases e:(tryF (ixB bs) s n k l).2.2=0
    ·exact e
    ·exact absurd (.inl e) h1) (by
    cases e:(tryF (ixB bs) s n k l).1.2.2.2 with
    | false=>rfl
    | true=>exact absurd (.inr e) h1)
   exact⟨h3,zif (Decidable.not_not.1 h2),h5,h4⟩
theorem GoodB.app {bs:List Bat} (h:GoodB bs) (s:ByteArray) (n:Int) (k:ByteArray) (l:List Ev) (hi : ∀ e∈l,evI e):GoodB (appB bs s n k l).2.2:=by
 rcases zhc bs s n k l with e|⟨b,e,-,e2,h1,h2,-⟩
 ·rw[e];exact h
 ·rw[e];exact GoodB.snoc b h h1 (by rw[e2];exact hi) h2
theorem ztk (bs:List Bat) (s:ByteArray) (n:Int) (k:ByteArray) (l:List Ev):(appB bs s n k l).2.2.length<=bs.length+1:=by
 rcases zhc bs s n k l with e|⟨b,e,-⟩
 ·rw[e];omega
 ·rw[e,List.length_append,List.length_singleton];omega
end
section
open Go.ChangeShapes Go.WideShapes Go.ChangeAt Go.RowKit Go.Deep
theorem zvq {α:Type} (n:Nat) (P:Nat->α->Prop) (h : ∀ i,i<n->∃ x,P i x) : ∃ l:List α,l.length=n/\∀ i (hi:i<l.length),P i l[i]:=by
 induction n with
 | zero=>exact⟨[],rfl,fun i hi=>absurd hi (by simp)⟩
 | succ n ih=>
  obtain⟨l,hl,hp⟩:=ih fun i hi=>h i (by omega);obtain⟨x,hx⟩:=h n (by omega);refine⟨l++[x],by simp[hl],fun i hi=>?_⟩;by_cases hi':i<l.length
  ·rw[List.getElem_append_left hi'];exact hp i hi'
  ·have hin:i=l.length:=by simp at hi;omega
   subst hin;rw[List.getElem_append_right (Nat.le_refl _)];simp only[Nat.sub_self,List.getElem_cons_zero];rw[hl];exact hx
theorem zgh {H:Type} (d:DataW H):1<=Rows.uptoBulk d:=by
 cases d with
 | lit l=>cases l <;> simp[Rows.uptoBulk]
 | _=>simp[Rows.uptoBulk]
section
variable {H:Type}{enc:TypeId × Value->H}{W:World}{base:Nat}{v:Value}{d:DataW H}{ps:List MemPlace}
end
end
section
open Go.ChangeShapes Go.WideShapes Go.ChangeAt Go.RowKit Go.Deep
structure Opens {α:Type} (r:Rdr α) (b:α->Nat) (t:TypeId):Prop where
 cells:Tryz.prog.cellsOf t=r.size
 op : ∀ {H:Type}{enc:TypeId × Value->H}{W:World}{fuel:Nat}{cs:List Value}{d:DataW H}{ps:List MemPlace},
  DataW.trod enc Tryz.prog W 0 (fun _=>true) true fuel t cs=some (d,ps)->∃ x,r.rd W (fun k=>k<W.heap.size) cs x/\b x<=Rows.uptoBulk d
def bOne {α:Type} (_:α):Nat:=1
def bS (s:ByteArray):Nat:=s.size+1
def bL {α:Type} (b:α->Nat) (xs:List α):Nat:=(xs.map b).sum+1
def bP {α β:Type} (a:α->Nat) (b:β->Nat) (x:α × β):Nat:=a x.1+b x.2
def bSt {α:Type} (b:α->Nat) (x:α):Nat:=b x+1
theorem zmy {t:TypeId} (h:Tryz.prog.underlying t=some (.int .i64)) (hc:Tryz.prog.cellsOf t=1):Opens rI bOne t:=by
 refine⟨hc,fun ht=>?_⟩;obtain⟨n,rfl,e,hw⟩:=DataW.trod_int h ht;exact⟨n,⟨rfl,zwt hw⟩,zgh _⟩
theorem zsr {t:TypeId} (h:Tryz.prog.underlying t=some .bool) (hc:Tryz.prog.cellsOf t=1):Opens rBo bOne t:=by
 refine⟨hc,fun ht=>?_⟩;obtain⟨n,rfl,e⟩:=DataW.trod_bool h ht;exact⟨n,rfl,zgh _⟩
theorem zvd {t:TypeId} (h:Tryz.prog.underlying t=some .string) (hc:Tryz.prog.cellsOf t=1):Opens rS bS t:=by
 refine⟨hc,fun ht=>?_⟩;obtain⟨s,rfl,e,hw⟩:=DataW.trod_string h ht;refine⟨s,⟨rfl,by unfold maxLen at hw;omega⟩,?_⟩;have:=(Prod.mk.inj e).1;subst this;simp only[Rows.uptoBulk,bS];rw[Array.length_toList];exact Nat.le_refl _
theorem zfi {α:Type}{r:Rdr α}{b:α->Nat}{t ts:TypeId} (o:Opens r b t) (h:Tryz.prog.underlying ts=some (.slice t)) (hc:Tryz.prog.cellsOf ts=1) (hz:0<r.size):Opens (rSl r) (bL b) ts:=by
 refine⟨hc,fun {H enc W fuel cs d ps} ht=>?_⟩;rcases open_slice h ht with⟨rfl,e⟩|⟨a,len,cap,m,n,D,Pl,rfl,_,hl,hm,hmm,hx,hi⟩
 ·exact⟨[],RdS.nil r W _,by simp[bL];exact zgh _⟩
 ·simp only[if_true]at hmm;subst hmm;rw[o.cells]at hi;have each : ∀ i,i<len->∃ g:List Value × α,r.rd W (fun k=>k<W.heap.size) g.1 g.2/\b g.2<=Rows.uptoBulk (D i)/\∀ j,j<r.size->W.cell? (a.add (i*r.size+j))=g.1[j]?:=by
   intro i hil;obtain⟨cs',hcc,ht'⟩:=hi i (by omega);obtain⟨_,hcl,hat⟩:=World.cells?_some hcc;obtain⟨x,h1,h2⟩:=o.op ht';refine⟨(cs',x),h1,h2,fun j hj=>?_⟩;have:=hat j (by omega);rw[add_add]at this;exact this
  obtain⟨gs,hgl,hgs⟩:=zvq len _ each;subst hgl;have hlen : ∀ p∈gs,p.1.length=r.size:=fun p hp=>by
   obtain⟨i,hi',rfl⟩:=List.getElem_of_mem hp;exact r.len (hgs i hi').1
  have hblk:0<gs.length->∃ g o,a=⟨g,o,none⟩/\g<W.heap.size:=fun h0=>by
   have hc0:=(hgs 0 h0).2.2 0 hz;have hl0:=hlen _ (List.getElem_mem h0);rw[List.getElem?_eq_getElem (by omega)]at hc0;obtain⟨g,o,spot⟩:=a;have hspot:spot=none:=by simpa[Addr.add] using World.cell?_spot hc0
   subst hspot;refine⟨g,o,rfl,?_⟩;have:=World.block_lt_of_cell? _ _ hc0;simpa[Addr.add] using this
  refine⟨gs.map (·.2),⟨_,gs,rfl,rfl,⟨some a,m,rfl,hl,hm,za4 gs _ hlen,fun h0=>?_⟩,fun h0 k hk=>?_,fun p hp=>?_⟩,?_⟩
  ·obtain⟨g,o,rfl,hg⟩:=hblk h0;refine⟨g,o,rfl,hg,fun j hj=>?_⟩;have hdm:=Nat.div_add_mod j r.size;have hjm:=Nat.mod_lt j hz;have hji:j / r.size<gs.length:=Nat.div_lt_of_lt_mul (by rw[Nat.mul_comm];exact hj);have h1:=(hgs _ hji).2.2 (j % r.size) hjm;have h2:=jv gs r.size hlen _ hji _ hjm;rw[show j / r.size*r.size+j % r.size=j from by rw[Nat.mul_comm];exact hdm]at h1 h2;rw[show (⟨g,o,none⟩:Addr).add j=⟨g,o+j,none⟩ from by unfold Addr.add;split <;> simp_all]at h1;rw[h1,h2]
  ·obtain⟨g,o,rfl,hg⟩:=hblk h0;simp only[Value.ownBlock,Option.map_some,Option.some.injEq]at hk;omega
  ·obtain⟨i,hi',rfl⟩:=List.getElem_of_mem hp;exact(hgs i hi').1
  ·have e:=(Prod.mk.inj hx).1;subst e;simp only[Rows.uptoBulk,bL];have key : ∀ (k:Nat) (hk:k<=gs.length),((gs.take k).map fun p=>b p.2).sum<=Rows.uptoBulkAll ((List.range k).map D):=by
    intro k;induction k with
    | zero=>intro _;simp[Rows.uptoBulkAll]
    | succ k ih=>
     intro hk;have h1:=ih (by omega);have h2:=(hgs k (by omega)).2.1;have happ : ∀ (l:List (DataW H)) (y:DataW H),Rows.uptoBulkAll (l++[y])=Rows.uptoBulkAll l+Rows.uptoBulk y:=by
      intro l y;induction l with
      | nil=>simp[Rows.uptoBulkAll]
      | cons z zs ihz=>simp only[List.cons_append,Rows.uptoBulkAll,ihz];omega
     rw[List.range_succ,List.map_append,List.map_singleton,happ,List.take_succ_eq_append_getElem (by omega),List.map_append,List.sum_append];simp only[List.map_singleton,List.sum_singleton];omega
   have:=key gs.length (Nat.le_refl _);rw[List.take_length]at this;rw[List.map_map];have e2:(gs.map (b ∘ fun x=>x.2)).sum=(gs.map fun p=>b p.2).sum:=rfl;omega
def zfo {α:Type} (r:Rdr α) (b:α->Nat) (fs:List Field) (off:Nat):Prop:=
 ∀ {H:Type}{enc:TypeId × Value->H}{W:World}{n:Nat}{cs:List Value}{xs:List (DataW H × List MemPlace)},xs.length=fs.length->
  (∀ (i:Nat) (f:Field),fs[i]? = some f->DataW.trod enc Tryz.prog W 0 (fun _=>true) true n f.type ((cs.drop f.offset).take (Tryz.prog.cellsOf f.type))=xs[i]?)->
  ∃ x,r.rd W (fun k=>k<W.heap.size) ((cs.drop off).take r.size) x/\b x<=Rows.uptoBulkAll (xs.map (·.1))
theorem zc2 {α:Type}{r:Rdr α}{b:α->Nat}{f:Field}{t:TypeId}{off:Nat} (o:Opens r b t) (ht:f.type=t) (hoff:f.offset=off):zfo r b [f] off:=by
 intro H enc W n cs xs hl h;subst ht hoff;match xs,hl with
 | [y],_=>
  have h0:=h 0 f rfl;rw[o.cells]at h0;obtain⟨x,h1,h2⟩:=o.op (d:=y.1) (ps:=y.2) (by simpa using h0);exact⟨x,h1,by simpa[Rows.uptoBulkAll] using h2⟩
theorem ve {α β:Type}{r:Rdr α}{b:α->Nat}{r':Rdr β}{b':β->Nat}{f:Field}{fs:List Field}{t:TypeId}{off:Nat} (o:Opens r b t) (ht:f.type=t) (hoff:f.offset=off) (k:zfo r' b' fs (off+r.size)):zfo (ke r r') (bP b b') (f :: fs) off:=by
 intro H enc W n cs xs hl h;subst ht hoff;match xs,hl with
 | y :: ys,hl=>
  have h0:=h 0 f rfl;rw[o.cells]at h0;obtain⟨x,h1,h2⟩:=o.op (d:=y.1) (ps:=y.2) (by simpa using h0);obtain⟨x',h1',h2'⟩:=k (cs:=cs) (xs:=ys) (by simpa using hl) fun i g hg=>by simpa using h (i+1) g (by simpa using hg)
  refine⟨(x,x'),⟨_,_,?_,h1,h1'⟩,by simp only[bP,List.map_cons,Rows.uptoBulkAll];omega⟩;show (cs.drop f.offset).take (r.size+r'.size)=_;rw[List.take_add,List.drop_drop]
theorem zf7 {α:Type}{r:Rdr α}{b:α->Nat}{t:TypeId}{fs:Array Field} (h:Tryz.prog.underlying t=some (.struct fs)) (hc:Tryz.prog.cellsOf t=r.size) (k:zfo r b fs.toList 0):Opens r (bSt b) t:=by
 refine⟨hc,fun {H enc W fuel cs d ps} ht=>?_⟩;obtain⟨xs,n,_,e,hl,hlen,hf⟩:=DataW.trod_struct h ht;obtain⟨x,h1,h2⟩:=k (cs:=cs) (xs:=xs) (by simpa using hlen) fun i f hif=>hf i f (by simpa using hif);rw[List.drop_zero,List.take_of_length_le (by omega)]at h1;refine⟨x,h1,?_⟩;have:=(Prod.mk.inj e).1;subst this;simp only[Rows.uptoBulk,bSt];omega
section
variable {H:Type}{enc:TypeId × Value->H}{W:World}{base:Nat}{v:Value}{d:DataW H}{ps:List MemPlace}
theorem zuf {α:Type}{r:Rdr α}{b:α->Nat}{t ts:TypeId} (o:Opens (rSl r) (bL b) ts) (h:Tryz.prog.underlying ts=some (.slice t)) (hval:Value.okWide Tryz.prog W .any base ts v) (hr : ∃ fuel,DataW.trod enc Tryz.prog W 0 (fun _=>true) true fuel ts v.cells.toList=some (d,ps)) :
  ∃ xs,RdS r W (fun k=>k<W.heap.size) v xs/\∀ n,Rows.uptoBulk d<=n->bL b xs<=n:=by
 obtain⟨a0,len0,cap0,rfl⟩:=okWide_slice h hval;obtain⟨fuel,hf⟩:=hr;obtain⟨xs,h1,h2⟩:=o.op (cs:=[.slice a0 len0 cap0]) hf;exact⟨xs,h1,fun n hn=>Nat.le_trans h2 hn⟩
end
end
section
open Go.ChangeShapes Go.WideShapes Go.ChangeAt Go.RowKit Go.Deep
theorem zso:Opens (rSl rI) (bL bOne) 23:=zfi (zmy Tryz.underlying3 (by kernel_rfl)) Tryz.underlying23 (by kernel_rfl) (by decide)
theorem zxh {H:Type}{enc:TypeId × Value->H}{W:World}{base:Nat}{v:Value}{d:DataW H}{ps:List MemPlace} (hval:Value.okWide Tryz.prog W .any base 23 v) (hr : ∃ fuel,DataW.trod enc Tryz.prog W 0 (fun _=>true) true fuel 23 v.cells.toList=some (d,ps)) :
  ∃ xs,RdS rI W (fun k=>k<W.heap.size) v xs/\∀ n,Rows.uptoBulk d<=n->bL bOne xs<=n:=zuf zso Tryz.underlying23 hval hr
end
section
open Go.RowKit Go.Maps
open Go.RowKit Go.Maps
theorem zyf {w W:World}{g:Nat}{ρ:Nat->Option DRol}{N:Nat}{d:Dv}{gl L n:Nat}{H:Int->Bk} (h:LogAt w W g ρ N d gl L n H) (k:Nat) (hk:k<=1000000) :
  Calls Tryz.prog 9 #[.pointer (some ⟨g,0,none⟩),.int .i64 k] W fun e W'=>e = .returned (.int .i64 0)/\∃ d',LogAt w W' g ρ N d' gl L n H/\Keep (fun j=>j≠g) W W':=by
 refine(zlg h.hm.dv (k:Int) (by omega)).mono ?_;rintro e W' ⟨rfl,h1,h2⟩;have h3:=h.hm.hd h1 h2;have e1:zaj d k=(0,{ d with fuse:=k }):=by
  unfold zaj;rw[if_neg (by rw[h.up.up];simp),show max (k:Int) (-1)=k by omega]
 rw[e1]at h3 ⊢;have hg:gl≠g:=fun e=>by
  obtain⟨_,_,_,hh⟩:=h.hm.dv;have:=h.rol;rw[e,hh.rg]at this;cases this
 exact⟨rfl,_,⟨h3,⟨h.up.up,by show (-1:Int)<=(k:Int);omega,h.up.rng⟩,h.st,h.len,h.log.keep h2 hg,h.low,h.rol,h.sp⟩,h2⟩
open Go.RowKit Go.Maps
open Go.RowKit Go.Maps
theorem zxn {w W:World}{g:Nat}{ρ:Nat->Option DRol}{N:Nat}{d:Dv} (hm:Mine w W g ρ N d) (hu:Up d) (k:Nat) (hk:k<=1000000) :
  Calls Tryz.prog 9 #[.pointer (some ⟨g,0,none⟩),.int .i64 k] W fun e W'=>e = .returned (.int .i64 0)/\∃ d',Mine w W' g ρ N d'/\Up d'/\Same d d'/\Keep (fun j=>j≠g) W W':=by
 refine(zlg hm.dv (k:Int) (by omega)).mono ?_;rintro e W' ⟨rfl,h1,h2⟩;have h3:=hm.hd h1 h2;have e1:zaj d k=(0,{ d with fuse:=k }):=by
  unfold zaj;rw[if_neg (by rw[hu.up];simp),show max (k:Int) (-1)=k by omega]
 rw[e1]at h3 ⊢;exact⟨rfl,_,h3,⟨hu.up,by show (-1:Int)<=(k:Int);omega,hu.rng⟩,⟨rfl,rfl⟩,h2⟩
open Go.RowKit Go.Maps
end
end Go.Proofs.YtnadlnmclameiaaGreatDoor
