/- part 43 -/
import Derived.Test.YtnadlnmclameiaaGreatDoorTS42
set_option maxRecDepth 100000
set_option maxHeartbeats 8000000
set_option linter.all false
namespace Go.Proofs.YtnadlnmclameiaaGreatDoor
section
open Go.RowKit Go.Maps
def kB (bs:List Bat):FsS:=⟨(filB bs).map List.length,nbN (stallF (frsB bs)).length,nbN (stallF (frsB bs)).length,nbN (stallF (frsB bs)).length,(filB bs).map List.length⟩
def szB (bs:List Bat):List Int:=((filB bs).map fun b=>(b.length:Int)).toList
structure StP (w W:World) (q g:Nat) (ρ:Nat->Option DRol) (N:Nat) (d:Dv) (n:Nat) (bs:List Bat) (U:Nat->Prop)
  (gl:Nat) (C:Int->Bk) (φ:Nat->Option FRol) (gf gc ga gm:Nat) (gt:Option Nat) (gn:Nat) (qn:Option Nat) (lv:Value) (gs:Nat) (fv zv:Value) (Sd:Nat->Prop) (gx:Nat) (T:Nat->Prop):Prop where
 head:W.heap[q]? = some (.cells #[.pointer (some ⟨gf,0,none⟩),.pointer (some ⟨gs,0,none⟩),.pointer (some ⟨gx,0,none⟩)] 74 (0,0))
 log:LogAt w W g ρ N d gl 64 n C
 mem:FsP W φ gf gl C (kB bs) gc ga gm gt gn qn lv
 dis : ∀ j,φ j≠none->ρ j=none/\j≠gl/\w.heap.size<=j
 home:FsHome C (filB bs)
 seg:SegP W Sd gs gf fv zv (frsB bs) (szB bs)
 segd : ∀ j,SegS Sd gs fv zv j->¬ FsT ρ gl φ j/\w.heap.size<=j
 ix:Idx T W gx (ixB bs)
 ixd : ∀ j,T j->¬ FsT ρ gl φ j/\¬ SegS Sd gs fv zv j/\j≠q
 qd : ¬ FsT ρ gl φ q/\¬ SegS Sd gs fv zv q
 cov : ∀ j,(FsT ρ gl φ j\/SegS Sd gs fv zv j\/T j\/j=q)->U j
 low : ∀ j,U j->w.heap.size<=j/\j<W.heap.size
 good:GoodB bs
def StAt (w W:World) (q g:Nat) (ρ:Nat->Option DRol) (N:Nat) (d:Dv) (n:Nat) (bs:List Bat) (U:Nat->Prop):Prop:=
 ∃ gl C φ gf gc ga gm gt gn qn lv gs fv zv Sd gx T,StP w W q g ρ N d n bs U gl C φ gf gc ga gm gt gn qn lv gs fv zv Sd gx T
section
variable {w W W':World}{q g:Nat}{ρ:Nat->Option DRol}{N N':Nat}{d:Dv}{n:Nat}{bs:List Bat}{U:Nat->Prop}{gl:Nat}{C:Int->Bk}{φ:Nat->Option FRol}{gf gc ga gm:Nat}{gt:Option Nat}{gn:Nat}{qn:Option Nat}{lv:Value}{gs:Nat}{fv zv:Value}{Sd:Nat->Prop}{gx:Nat}{T:Nat->Prop}
theorem StP.keep (h:StP w W q g ρ N d n bs U gl C φ gf gc ga gm gt gn qn lv gs fv zv Sd gx T) (hk:Keep (fun j=>U j\/j<w.heap.size) W W'):StP w W' q g ρ N d n bs U gl C φ gf gc ga gm gt gn qn lv gs fv zv Sd gx T where
 head:=(hk.block q (.inl (h.cov q (.inr (.inr (.inr rfl))))) (h.low q (h.cov q (.inr (.inr (.inr rfl))))).2).trans h.head
 log:=h.log.keepT (hk.mono fun j hj _=>by
  rcases hj with (hj|hj)|hj
  ·exact .inl (h.cov j (.inl (.inl hj)))
  ·exact .inr hj
  ·exact .inl (h.cov j (.inl (.inr (.inl hj)))))
 mem:=h.mem.keep (hk.mono fun j hj _=>.inl (h.cov j (.inl (.inr (.inr hj)))))
 dis:=h.dis
 home:=h.home
 seg:=h.seg.keep (hk.mono fun j hj _=>.inl (h.cov j (.inr (.inl hj))))
 segd:=h.segd
 ix:=h.ix.keep (hk.mono fun j hj _=>.inl (h.cov j (.inr (.inr (.inl hj)))))
 ixd:=h.ixd
 qd:=h.qd
 cov:=h.cov
 low:=fun j hj=>⟨(h.low j hj).1,Nat.lt_of_lt_of_le (h.low j hj).2 hk.size⟩
 good:=h.good
theorem StAt.keep (h:StAt w W q g ρ N d n bs U) (hk:Keep (fun j=>U j\/j<w.heap.size) W W'):StAt w W' q g ρ N d n bs U:=by
 obtain⟨gl,C,φ,gf,gc,ga,gm,gt,gn,qn,lv,gs,fv,zv,Sd,gx,T,h⟩:=h;exact⟨gl,C,φ,gf,gc,ga,gm,gt,gn,qn,lv,gs,fv,zv,Sd,gx,T,h.keep hk⟩
theorem StAt.ext (h:StAt w W q g ρ N d n bs U) (hx:Ext W W'):StAt w W' q g ρ N d n bs U:=h.keep (hx.keep _)
theorem StAt.more (h:StAt w W q g ρ N d n bs U) (hn:N<=N'):StAt w W q g ρ N' d n bs U:=by
 obtain⟨gl,C,φ,gf,gc,ga,gm,gt,gn,qn,lv,gs,fv,zv,Sd,gx,T,h⟩:=h;exact⟨gl,C,φ,gf,gc,ga,gm,gt,gn,qn,lv,gs,fv,zv,Sd,gx,T,{ h with log:={ h.log with hm:=h.log.hm.mono hn } }⟩
theorem StAt.low (h:StAt w W q g ρ N d n bs U) : ∀ j,U j->w.heap.size<=j/\j<W.heap.size:=by
 obtain⟨gl,C,φ,gf,gc,ga,gm,gt,gn,qn,lv,gs,fv,zv,Sd,gx,T,h⟩:=h;exact h.low
theorem StAt.good (h:StAt w W q g ρ N d n bs U):GoodB bs:=by
 obtain⟨gl,C,φ,gf,gc,ga,gm,gt,gn,qn,lv,gs,fv,zv,Sd,gx,T,h⟩:=h;exact h.good
theorem StAt.dev (h:StAt w W q g ρ N d n bs U):Mine w W g ρ N d/\Up d/\qk d/\d.safe.length=64/\(∀ j,ρ j≠none->U j)/\∀ s,Img d s->FsImg n s (filB bs):=by
 obtain⟨gl,C,φ,gf,gc,ga,gm,gt,gn,qn,lv,gs,fv,zv,Sd,gx,T,h⟩:=h;refine⟨h.log.hm,h.log.up,h.log.st,h.log.len,fun j hj=>h.cov j (.inl (.inl hj)),fun s hs=>?_⟩;have h1:=ks h.log.st hs;exact FsImg.done (h.log.sp.cur (Nat.le_refl _) fun j a b=>h1 j a (by rw[h.log.len];exact b)) h.home (Nat.le_refl _)
theorem LogAt.l512 {L:Nat} (h:LogAt w W g ρ N d gl L n C) (j:Int) (h0:20<=j) (h1:j<L):(C j).length=512:=by
 rw[<-h.sp.home j h0 h1];obtain⟨vs,gm,m,hd⟩:=h.hm.dv;unfold curF;rw[h.st j];obtain⟨xs,e,-,-,hr⟩:=hd.safe;have hl:j.toNat<d.safe.length:=by rw[h.len];omega
 show (d.safe.getD j.toNat zb).length=512;have hget:d.safe.getD j.toNat zb=d.safe[j.toNat]:=by simp[List.getD,hl]
 have hall : ∀ b∈d.safe,b.length=512:=by
  rw[e];intro b hb;obtain⟨p,hp,rfl⟩:=List.mem_map.1 hb;exact(hr p hp).2
 rw[hget];exact hall _ (List.getElem_mem hl)
theorem SegP.tight {fs:List SFr}{zs:List Int} (h:SegP W Sd gs gf fv zv fs zs):SegP W (fun j=>Sd j/\j<W.heap.size) gs gf fv zv fs zs:=by
 have hno : ∀ k,fv.ownBlock=some k->¬ Sd k:=by
  obtain⟨_,_,_,h2,_⟩:=h.frames;exact h2
 exact⟨h.head,h.frames.widen (fun j hj hl=>⟨hj,hl⟩) fun j hj hc=>hno j hj hc.1,h.sizes,fun k hk=>h.ne k (by
  rcases hk with hk|hk|hk
  ·exact .inl hk
  ·exact .inr (.inl hk)
  ·exact .inr (.inr hk.1)),fun k hk=>⟨(h.two k hk).1,fun hc=>(h.two k hk).2 hc.1⟩⟩
end
section
variable {w W:World}{g:Nat}{ρ:Nat->Option DRol}{N:Nat}{d:Dv}{gl n:Nat}{H:Int->Bk}{φ:Nat->Option FRol}{gf:Nat}{gc ga gm:Nat}{gt:Option Nat}{gn:Nat}{qn:Option Nat}{lv:Value}
theorem zty (bs:List Bat) (hg:GoodB bs) (hl:bs.length<=4) (hla:LogAt w W g ρ N d gl 64 n H) (hc:Calm d) (hN:N<=999900000) (h:FsP W φ gf gl H { kB bs with q:=0 } gc ga gm gt gn qn lv) (hdis : ∀ j,φ j≠none->ρ j=none/\j≠gl/\w.heap.size<=j) (hf:FsHome H (filB bs)) :
  Calls Tryz.prog 29 #[.pointer (some ⟨gf,0,none⟩)] W fun e W'=>∃ gs fv zv Sd d' φ',e = .returned (.tuple #[.pointer (some ⟨gs,0,none⟩),.int .i64 0])/\SegP W' Sd gs gf fv zv (frsB bs) (szB bs)/\
   LogAt w W' g ρ (N+16) d' gl 64 n H/\Calm d'/\FsP W' φ' gf gl H (kB bs) gc ga gm gt gn qn lv/\FStep W W' ρ ρ gl φ φ'/\(∀ j,SegS Sd gs fv zv j->W.heap.size<=j/\j<W'.heap.size/\φ' j=none):=by
 have hfin : ∀ {W':World}{Sd:Nat->Prop}{gs:Nat}{fv zv:Value}{φ':Nat->Option FRol},SegP W' Sd gs gf fv zv (frsB bs) (szB bs)->(∀ j,SegS Sd gs fv zv j->W.heap.size<=j/\φ' j=none)->
   SegP W' (fun j=>Sd j/\j<W'.heap.size) gs gf fv zv (frsB bs) (szB bs)/\∀ j,SegS (fun j=>Sd j/\j<W'.heap.size) gs fv zv j->W.heap.size<=j/\j<W'.heap.size/\φ' j=none:=by
  intro W' Sd gs fv zv φ' h1 h2;refine⟨h1.tight,fun j hj=>?_⟩;rcases hj with hj|hj|hj|hj
  ·have:=h2 j (.inl hj);have h3:=(blt h1.head)
   exact⟨this.1,by omega,this.2⟩
  ·have:=h2 j (.inr (.inl hj));exact⟨this.1,(h1.frames.lt j hj).2,this.2⟩
  ·have:=h2 j (.inr (.inr (.inl hj)));exact⟨this.1,(h1.sizes.lt j hj).2,this.2⟩
  ·have:=h2 j (.inr (.inr (.inr hj.1)));exact⟨this.1,hj.2,this.2⟩
 by_cases hb:bs=[]
 ·subst hb;have hat:FsAt w W g ρ N d gl n H (fun _=>True) φ gf { kB [] with q:=0 }:=⟨hla.putG (by omega) fun _ _=>trivial,⟨_,_,_,_,_,_,_,h⟩,hdis⟩
  refine(zlb hat rfl).mono ?_;rintro e W' ⟨gs,rfl,h1,hx,h2⟩;have hla':=hla.keepT (hx.keep _);obtain⟨k1,k2⟩:=hfin (φ':=φ) (W':=W') (Sd:=fun _=>False) (gs:=gs) (fv:=.slice none 0 0) (zv:=.slice none 0 0) h1 (fun j hj=>by
   rcases hj with hj|hj|hj|hj
   ·subst hj;refine⟨h2,?_⟩;by_cases e:φ j=none
    ·exact e
    ·have:=h.lt j e;omega
   ·simp[Value.ownBlock]at hj
   ·simp[Value.ownBlock]at hj
   ·exact hj.elim)
  exact⟨gs,_,_,_,d,φ,rfl,k1,{ hla' with hm:=hla'.hm.mono (by omega) },hc,h.ext hx,(FStep.refl W ρ gl φ).ext hx,k2⟩
 ·have hsz:filB bs=some (stallF (frsB bs)):=by unfold filB;rw[if_neg hb]
  have hle:=hg.len;have hk:kB bs=⟨some (stallF (frsB bs)).length,nbN (stallF (frsB bs)).length,nbN (stallF (frsB bs)).length,nbN (stallF (frsB bs)).length,some (stallF (frsB bs)).length⟩:=by unfold kB;rw[hsz];rfl
  have hz:szB bs=[((stallF (frsB bs)).length:Int)]:=by unfold szB;rw[hsz];rfl
  rw[hk]at h ⊢;refine(zla (stallF (frsB bs)).length _ _ _ hla hc hN h hdis (by omega) (frsB bs) hg.small rfl (fun i hi=>hf.data _ hsz i hi)).mono ?_;rintro e W' ⟨gs,fv,zv,Sd,d',φ',rfl,h1,h2,h3,h4,h5,h6⟩;rw[<-hz]at h1;obtain⟨k1,k2⟩:=hfin h1 h6;exact⟨gs,fv,zv,_,d',φ',rfl,k1,h2,h3,h4,h5,k2⟩
end
end
section
open Go.RowKit
theorem zfv (w:World) (va vb:Value) (a b:List UInt8) (ha:RdB w va a) (hb:RdB w vb b) :
  Calls Tryz.prog 73 #[va,vb] w fun e w'=>e = .returned (.bool (decide (a=b)))/\w=w':=by
 have h1:=zb6 ha;have h2:=zb6 hb;obtain⟨aa,ac,rfl,-⟩:=ha;obtain⟨ba,bc,rfl,-⟩:=hb;by_cases h:a=b
 ·subst h;go_enter Tryz.func73,Tryz.ntmps73;go_wp2_with fail;go_ret;exact⟨zap (by simp),rfl⟩
 ·have t:=(beq_eq_false_iff_ne (a:=a) (b:=b)).2 h;have HD:=hid (decide_eq_false h);clear h;go_enter Tryz.func73,Tryz.ntmps73;go_wp2_with fail;go_ret;exact⟨zap (by rw[HD.out]),rfl⟩
def accF (m:Nat) (st:stSt) (acc:List Fld):List Fld × stSt:=(acc++(zac m st).1,(zac m st).2)
theorem zi5 (st:stSt) (acc:List Fld):accF 0 st acc=(acc,st):=by simp[accF,zac]
theorem ztr (m:Nat) (st:stSt) (acc:List Fld) (h:st.2=true):accF m st acc=(acc,st):=by
 cases m
 ·exact zi5 st acc
 ·unfold accF zac;rw[if_pos h];simp
theorem zq6 (m:Nat) (st:stSt) (acc:List Fld) (h:st.2=false):accF (m+1) st acc=accF m (rFld st).2 (acc++[(rFld st).1]):=by
 unfold accF;rw[zac,if_neg (by rw[h];decide)];simp
def accE (m:Nat) (st:stSt) (acc:List Ev):List Ev × stSt:=(acc++(rEvs m st).1,(rEvs m st).2)
theorem zi6 (st:stSt) (acc:List Ev):accE 0 st acc=(acc,st):=by simp[accE,rEvs]
theorem ztt (m:Nat) (st:stSt) (acc:List Ev) (h:st.2=true):accE m st acc=(acc,st):=by
 cases m
 ·exact zi6 st acc
 ·unfold accE rEvs;rw[if_pos h];simp
theorem zq7 (m:Nat) (st:stSt) (acc:List Ev) (h:st.2=false):accE (m+1) st acc=accE m (rEv st).2 (acc++[(rEv st).1]):=by
 unfold accE;rw[rEvs,if_neg (by rw[h];decide)];simp
theorem zjs (st:stSt) (n e:Nat):(tk st n e).1.length<=st.1.length:=by
 unfold tk;split
 ·simp only[List.length_drop];omega
 ·simp
theorem zba (m:Int) (st:stSt):(y8 m st).2.1.length<=st.1.length/\(y8 m st).1.size<=st.1.length:=by
 refine⟨zjs _ _ _,?_⟩;have:(y8 m st).1.size=(zyg st.1 m).1.length:=by
  show ((⟨(zyg st.1 m).1.toArray⟩:ByteArray)).size=_;simp[ByteArray.size]
 rw[this];unfold zyg;split
 ·simp
 ·split
  ·simp
  ·split
   ·simp
   ·simp only[List.length_take,List.length_drop];omega
theorem zdq (m:Nat) (st:stSt):(rNum m st).2.1.length<=st.1.length/\(rNum m st).1<=m:=by
 refine⟨zjs _ _ _,?_⟩;unfold rNum numE;dsimp only;by_cases h:m<(zi st.1).1
 ·rw[if_pos h];simp[tk]
 ·rw[if_neg h];split
  ·omega
  ·omega
theorem zsd (st:stSt):(rFld st).2.1.length<=st.1.length/\(rFld st).1.1.size<=st.1.length/\(rFld st).1.2.2.2.size<=st.1.length/\fldI (rFld st).1:=by
 have h1:=zba 60 st;obtain⟨T,hT⟩ : ∃ T,y8 60 st=T:=⟨_,rfl⟩
 obtain⟨t,l,b⟩:=T;rw[hT]at h1;dsimp only at h1;cases l with
 | nil=>rw[zkc hT];refine⟨by simp,by dsimp only;omega,by simp[ByteArray.size],by unfold fldI;dsimp only;omega⟩
 | cons c r=>
  simp only[List.length_cons]at h1;by_cases h0:c=0
  ·rw[zkb hT h0];have h2:=zjs (c :: r,b) (1+(zi r).2.1) (zi r).2.2;simp only[List.length_cons]at h2;have hf:=yh r;refine⟨by dsimp only;omega,by dsimp only;omega,by simp[ByteArray.size],?_⟩;unfold fldI zbl;dsimp only;split <;> omega
  ·by_cases hc:c=1
   ·rw[zka hT h0 hc];have h2:=zba 200 (r,b);dsimp only at h2;refine⟨by dsimp only;omega,by dsimp only;omega,by dsimp only;omega,by unfold fldI;dsimp only;omega⟩
   ·rw[zkd hT h0 hc];refine⟨by simp;omega,by dsimp only;omega,by simp[ByteArray.size],by unfold fldI;dsimp only;omega⟩
end
end Go.Proofs.YtnadlnmclameiaaGreatDoor
