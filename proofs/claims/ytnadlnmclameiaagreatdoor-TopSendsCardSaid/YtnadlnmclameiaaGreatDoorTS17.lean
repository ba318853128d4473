/- part 17 -/
import Derived.Test.YtnadlnmclameiaaGreatDoorTS16
set_option maxRecDepth 100000
set_option maxHeartbeats 8000000
set_option linter.all false
namespace Go.Proofs.YtnadlnmclameiaaGreatDoor
section
open Go.RowKit
def posF (frm:Int) (p:JW) (i:Int):Int:=if frm=0 then 20+p.1 else frm+i
def xg (frm:Int):List JW->Int->Int->Prop
 | [],_,_=>False
 | p :: ps,i,j=>j=posF frm p i\/xg frm ps (i+1) j
def ya (frm:Int):List JW->Int->(Int->Bk)->Int->Bk
 | [],_,c=>c
 | p :: ps,i,c=>ya frm ps (i+1) fun j=>if j=posF frm p i then p.2 else c j
theorem jx (frm:Int) : ∀ (ws:List JW) (i:Int) (c:Int->Bk) (j:Int),¬ xg frm ws i j->ya frm ws i c j=c j
 | [],_,_,_,_=>rfl
 | p :: ps,i,c,j,h=>by
  show ya frm ps (i+1) _ j=_;rw[jx frm ps (i+1) _ j fun h'=>h (.inr h')];exact if_neg fun e=>h (.inl e)
theorem zhv (d:Dv):Img d (curF d):=fun k h0 h1=>by
 unfold curF;cases h:(d.pend k).getLast? with
 | none=>left;rfl
 | some b=>right;exact List.mem_of_getLast? h
def PosOk (frm:Int) (L:Int) (ws:List JW) (i:Int):Prop:=∀ (k:Nat) (h:k<ws.length),0<=posF frm ws[k] (i+k)/\posF frm ws[k] (i+k)<L/\ws[k].2.length=512
theorem PosOk.head {frm L:Int}{p:JW}{ps:List JW}{i:Int} (h:PosOk frm L (p :: ps) i):0<=posF frm p i/\posF frm p i<L/\p.2.length=512:=by
 have:=h 0 (by simp);simpa using this
theorem PosOk.tail {frm L:Int}{p:JW}{ps:List JW}{i:Int} (h:PosOk frm L (p :: ps) i):PosOk frm L ps (i+1):=fun k hk=>by
 have:=h (k+1) (by simpa using hk);rw[show i+((k+1:Nat):Int)=i+1+(k:Int) by omega]at this;simpa using this
theorem zeg (frm:Int) : ∀ (ws:List JW) (i:Int) (d:Dv),Up d->PosOk frm d.safe.length ws i->
  (∃ d',yb frm ws i d=(0,d')/\Up d'/\d'.safe.length=d.safe.length/\(d.fuse = -1->d'.fuse = -1)/\(∀ j,curF d' j=ya frm ws i (curF d) j)/\∀ s,Img d' s->∃ s0,Img d s0/\∀ j,¬ xg frm ws i j->s j=s0 j)\/
  (d.fuse≠ -1/\∃ d',yb frm ws i d=(2,d')/\d'.down=true/\d'.safe.length=d.safe.length/\∀ s,Img d' s->∃ s0,Img d s0/\∀ j,¬ xg frm ws i j->s j=s0 j)
 | [],i,d,hu,_=>.inl ⟨d,rfl,hu,rfl,id,fun _=>rfl,fun s hs=>⟨s,hs,fun _ _=>rfl⟩⟩
 | p :: ps,i,d,hu,hp=>by
  obtain⟨h0,h1,h2⟩:=hp.head;have hst : ∀ X,zy d (posF frm p i) p.2=X->yb frm (p :: ps) i d=if X.1≠0 then X else yb frm ps (i+1) X.2:=by
   rintro X rfl;rfl
  rcases zb2 hu ⟨h0,h1⟩ h2 with⟨d1,e1,w1,u1,f1⟩|⟨hf,d1,e1,s1,u1⟩
  ·have hs:=hst _ e1;rw[if_neg (by simp)]at hs;have himg : ∀ s:Int->Bk,(∃ s0,Img d1 s0/\∀ j,¬ xg frm ps (i+1) j->s j=s0 j)->∃ s0,Img d s0/\∀ j,¬ xg frm (p :: ps) i j->s j=s0 j:=by
    rintro s ⟨s0,k1,k2⟩;rcases w1.img k1 with⟨s1,k3,k4,k5⟩|k3
    ·exact⟨s1,k3,fun j hj=>(k2 j fun h=>hj (.inr h)).trans (k4 j fun e=>hj (.inl e))⟩
    ·exact⟨s0,k3,fun j hj=>k2 j fun h=>hj (.inr h)⟩
   rcases zeg frm ps (i+1) d1 u1 (by rw[w1.len];exact hp.tail) with⟨d2,e2,u2,l2,f2,c2,k2⟩|⟨hf2,d2,e2,u2,l2,k2⟩
   ·left;refine⟨d2,by rw[hs];exact e2,u2,l2.trans w1.len,fun h=>f2 (f1 h),fun j=>?_,fun s h=>himg s (k2 s h)⟩;rw[c2];show _=ya frm ps (i+1) _ j;rw[show (fun j=>if j=posF frm p i then p.2 else curF d j)=curF d1 from funext fun j=>(w1.cur j).symm]
   ·right;exact⟨fun h=>hf2 (f1 h),d2,by rw[hs];exact e2,u2,l2.trans w1.len,fun s h=>himg s (k2 s h)⟩
  ·right;have hs:=hst _ e1;rw[if_pos (by simp)]at hs;exact⟨hf,d1,hs,u1,s1.len,fun s h=>⟨s,s1.img h,fun _ _=>rfl⟩⟩
theorem zbj : ∀ (ws:List JW) (i j:Int),(∀ p∈ws,0<=p.1)->xg 0 ws i j->20<=j
 | [],_,_,_,h=>h.elim
 | p :: ps,i,j,hp,h=>by
  rcases h with h|h
  ·have:=hp p (by simp);rw[h];unfold posF;rw[if_pos rfl];omega
  ·exact zbj ps (i+1) j (fun q hq=>hp q (by simp[hq])) h
theorem zdg : ∀ (ws:List JW) (i j:Int),xg 3 ws i j->3+i<=j/\j<3+i+ws.length
 | [],_,_,h=>h.elim
 | p :: ps,i,j,h=>by
  rcases h with h|h
  ·rw[h];unfold posF;rw[if_neg (by omega),List.length_cons];omega
  ·have:=zdg ps (i+1) j h;rw[List.length_cons];omega
theorem zh0 : ∀ (ws:List JW) (i:Int) (c:Int->Bk) (k:Nat) (h:k<ws.length),ya 3 ws i c (3+i+k)=ws[k].2
 | p :: ps,i,c,0,h=>by
  show ya 3 ps (i+1) _ _=_;rw[jx 3 ps (i+1) _ _ fun h'=>by have:=zdg ps (i+1) _ h';omega];refine if_pos ?_;unfold posF;rw[if_neg (by omega)];simp
 | p :: ps,i,c,k+1,h=>by
  show ya 3 ps (i+1) _ _=_;rw[show 3+i+((k+1:Nat):Int)=3+(i+1)+(k:Int) by omega];exact zh0 ps (i+1) _ k (by simpa using h)
theorem zk5 {d:Dv} (hu:Up d) (hst:qk d) (hl:64<=d.safe.length) {n:Nat} (hn:n<=999999990) (hr:Rec d 0 n (yg n)) (ws:List JW) (hok:WsOk ws) (hin : ∀ p∈ws,p.1<(d.safe.length:Int)-20) :
  jf d ws/\
  ((∃ d',yu d n ws=(0,d')/\Up d'/\qk d'/\d'.safe.length=d.safe.length/\(d.fuse = -1->d'.fuse = -1)/\Rec d' 0 (n+1) (yg (n+1))/\∀ j:Int,2<=j->j<d.safe.length->curF d' j=ya 0 ws 0 (curF d) j)\/
   (d.fuse≠ -1/\∃ d',yu d n ws=(2,d')/\d'.down=true/\d'.safe.length=d.safe.length/\∀ s,Img d' s->
    (RecI s 0 n (yg n)/\∀ j:Int,2<=j->j<d.safe.length->¬ xg 0 ws 0 j->s j=curF d j)\/
    (RecI s 0 (n+1) (yg (n+1))/\∀ j:Int,2<=j->j<d.safe.length->s j=ya 0 ws 0 (curF d) j))):=by
 have hpos:PosOk 0 d.safe.length ws 0:=fun k h=>by
  obtain⟨h1,h2,h3⟩:=hok.2 _ (List.getElem_mem h);have h4:=hin _ (List.getElem_mem h);unfold posF;rw[if_pos rfl];omega
 have hh : ∀ j,xg 0 ws 0 j->20<=j:=fun j h=>zbj ws 0 j (fun p hp=>(hok.2 p hp).1) h;have stop : ∀ s s0,Img d s0->(∀ j,¬ xg 0 ws 0 j->s j=s0 j)->RecI s 0 n (yg n)/\∀ j:Int,2<=j->j<d.safe.length->¬ xg 0 ws 0 j->s j=curF d j:=fun s s0 h1 h2=>by
  have hk:=ks hst h1;refine⟨zho hr ?_ ?_,fun j j0 j1 hj=>(h2 j hj).trans (hk j (by omega) j1)⟩
  ·rw[h2 0 fun h=>by have:=hh 0 h;omega];exact hk 0 (by omega) (by omega)
  ·rw[h2 (0+1) fun h=>by have:=hh (0+1) h;omega];exact hk (0+1) (by omega) (by omega)
 unfold jf;have hcodes : ∀ X1 X2:Int × Dv,X1=yb 0 ws 0 d->X2=z7 X1.2->(X1.1≠0->yu d n ws=X1)/\(X1.1=0->X2.1≠0->yu d n ws=X2)/\(X1.1=0->X2.1=0->yu d n ws=zyh X2.2 0 (yg (n+1))):=by
  rintro X1 X2 rfl rfl;unfold yu;exact⟨fun h=>if_pos h,fun h1 h2=>by rw[if_neg (by simpa using h1),if_pos h2],fun h1 h2=>by rw[if_neg (by simpa using h1),if_neg (by simpa using h2)]⟩
 rcases zeg 0 ws 0 d hu hpos with⟨d1,e1,u1,l1,f1,c1,k1⟩|⟨hf,d1,e1,u1,l1,k1⟩
 ·rcases zcg u1 (by omega) with⟨d2,e2,w2,u2,f2⟩|⟨hf,d2,e2,s2,u2⟩
  ·obtain⟨-,-,hc⟩:=hcodes _ _ e1.symm e2.symm;have hap:=hc rfl rfl;have hcur2 : ∀ j:Int,0<=j->j<d.safe.length->curF d2 j=ya 0 ws 0 (curF d) j:=fun j j0 j1=>(w2.cur j j0 (by omega)).trans (c1 j);have hr2:Rec d2 0 n (yg n):=by
    refine hr.cur ?_ ?_
    ·rw[hcur2 0 (by omega) (by omega),jx 0 ws 0 _ _ fun h=>by have:=hh 0 h;omega]
    ·rw[hcur2 (0+1) (by omega) (by omega),jx 0 ws 0 _ _ fun h=>by have:=hh (0+1) h;omega]
   have hl2:d2.safe.length=d.safe.length:=w2.len.trans l1;obtain⟨hn2,hs⟩:=zr2 u2 w2.still (n:=0) ⟨by omega,by omega⟩ (c:=n) (by omega) hr2 (data:=yg (n+1)) (Nat.le_trans (ziw _) (by omega));refine⟨by rw[e1,e2];exact fun _ _ _=>hn2,?_⟩;rcases hs with⟨d3,e3,u3,st3,l3,r3,c3,f3⟩|⟨hf,d3,e3,u3,l3,k3⟩
   ·left;exact⟨d3,hap.trans e3,u3,st3,l3.trans hl2,fun h=>f3 (f2 (f1 h)),r3,fun j j0 j1=>(c3 j (by omega) (by omega) (by omega) (by omega)).trans (hcur2 j (by omega) j1)⟩
   ·right;refine⟨fun h=>hf (f2 (f1 h)),d3,hap.trans e3,u3,l3.trans hl2,fun s hs=>?_⟩;obtain⟨h1,h2⟩:=k3 s hs;have h3 : ∀ j:Int,2<=j->j<d.safe.length->s j=ya 0 ws 0 (curF d) j:=fun j j0 j1=>(h2 j (by omega) (by omega) (by omega) (by omega)).trans (hcur2 j (by omega) j1);rcases h1 with h1|h1
    ·exact .inl ⟨h1,fun j j0 j1 hj=>(h3 j j0 j1).trans (jx 0 ws 0 _ _ hj)⟩
    ·exact .inr ⟨h1,h3⟩
  ·obtain⟨-,hc,-⟩:=hcodes _ _ e1.symm e2.symm;refine⟨by rw[e1,e2];exact fun _ h=>absurd h (by simp),.inr ⟨fun h=>hf (f1 h),d2,hc rfl (by simp),u2,s2.len.trans l1,fun s hs=>?_⟩⟩;obtain⟨s0,h1,h2⟩:=k1 s (s2.img hs);exact .inl (stop s s0 h1 h2)
 ·obtain⟨hc,-,-⟩:=hcodes _ _ e1.symm rfl;refine⟨by rw[e1];exact fun h=>absurd h (by simp),.inr ⟨hf,d1,hc (by simp),u1,l1,fun s hs=>?_⟩⟩;obtain⟨s0,h1,h2⟩:=k1 s hs;exact .inl (stop s s0 h1 h2)
open Go.RowKit
theorem zb4 (frm:Int) : ∀ (ws:List JW) (i:Int) (c c':Int->Bk) (j:Int),c j=c' j->ya frm ws i c j=ya frm ws i c' j
 | [],_,_,_,_,h=>h
 | p :: ps,i,c,c',j,h=>by
  refine zb4 frm ps (i+1) _ _ j ?_;show (if _ then _ else _)=(if _ then _ else _)
  rw[h]
theorem zqw {d:Dv} (hu:Up d) (hl:64<=d.safe.length) {n:Nat} (hn:n<=999999990) (hr:Rec d 0 n (yg n)) (ws:List JW) (hok:WsOk ws) (hin : ∀ p∈ws,p.1<(d.safe.length:Int)-20) :
  ((com1 d ws).1=0->(com2 d ws).1=0->(com3 d n ws).1=0->(com4 d n ws).1=0->jf (com4 d n ws).2 ws)/\
  ((∃ d',yr d n ws=(0,d')/\Up d'/\qk d'/\d'.safe.length=d.safe.length/\(d.fuse = -1->d'.fuse = -1)/\Rec d' 0 (n+1) (yg (n+1))/\curF d' 2=qr (n+1) ws/\∀ j:Int,20<=j->j<d.safe.length->curF d' j=ya 0 ws 0 (curF d) j)\/
   (d.fuse≠ -1/\∃ d',yr d n ws=(2,d')/\d'.down=true/\d'.safe.length=d.safe.length/\∀ s,Img d' s->
    (∃ s0,Img d s0/\∀ j:Int,0<=j->j<d.safe.length->j<3\/20<=j->s j=s0 j)\/
    (RecI s 0 n (yg n)/\s 2=qr (n+1) ws/\(∀ (k:Nat) (h:k<ws.length),s (3+k)=ws[k].2)/\∀ j:Int,20<=j->j<d.safe.length->¬ xg 0 ws 0 j->s j=curF d j)\/
    (RecI s 0 (n+1) (yg (n+1))/\s 2=qr (n+1) ws/\∀ j:Int,20<=j->j<d.safe.length->s j=ya 0 ws 0 (curF d) j))):=by
 have hl16:=hok.1;have hpos:PosOk 3 d.safe.length ws 0:=fun k h=>by
  have:=(hok.2 _ (List.getElem_mem h)).2.2;unfold posF;rw[if_neg (by omega)];omega
 have hpt : ∀ j,xg 3 ws 0 j->3<=j/\j<19:=fun j h=>by have:=zdg ws 0 j h;omega
 have hhm : ∀ j,xg 0 ws 0 j->20<=j:=fun j h=>zbj ws 0 j (fun p hp=>(hok.2 p hp).1) h;have hcodes : ∀ X1 X2 X3 X4:Int × Dv,X1=yb 3 ws 0 d->X2=z7 X1.2->X3=zy X2.2 2 (qr (n+1) ws)->X4=z7 X3.2->
   ((X1.1=0->X2.1=0->X3.1=0->X4.1=0->jf X4.2 ws)->(com1 d ws).1=0->(com2 d ws).1=0->(com3 d n ws).1=0->(com4 d n ws).1=0->jf (com4 d n ws).2 ws)/\
   (X1.1≠0->yr d n ws=X1)/\(X1.1=0->X2.1≠0->yr d n ws=X2)/\(X1.1=0->X2.1=0->X3.1≠0->yr d n ws=X3)/\(X1.1=0->X2.1=0->X3.1=0->X4.1≠0->yr d n ws=X4)/\(X1.1=0->X2.1=0->X3.1=0->X4.1=0->yr d n ws=yu X4.2 n ws):=by
  rintro X1 X2 X3 X4 rfl rfl rfl rfl;refine⟨fun h=>h,?_⟩;unfold yr;exact⟨fun h=>if_pos h,fun h1 h2=>by rw[if_neg (fun hh=>hh h1)];exact if_pos h2,fun h1 h2 h3=>by rw[if_neg (fun hh=>hh h1),if_neg (fun hh=>hh h2)];exact if_pos h3,fun h1 h2 h3 h4=>by rw[if_neg (fun hh=>hh h1),if_neg (fun hh=>hh h2),if_neg (fun hh=>hh h3)];exact if_pos h4,fun h1 h2 h3 h4=>by rw[if_neg (fun hh=>hh h1),if_neg (fun hh=>hh h2),if_neg (fun hh=>hh h3),if_neg (fun hh=>hh h4)];rfl⟩
 rcases zeg 3 ws 0 d hu hpos with⟨d1,e1,u1,l1,f1,c1,k1⟩|⟨hf,d1,e1,u1,l1,k1⟩
 ·have old1 : ∀ s,Img d1 s->∃ s0,Img d s0/\∀ j:Int,0<=j->j<d.safe.length->j<3\/20<=j->s j=s0 j:=fun s hs=>by
   obtain⟨s0,h1,h2⟩:=k1 s hs;exact⟨s0,h1,fun j _ _ hj=>h2 j fun h=>by have:=hpt j h;omega⟩
  rcases zcg u1 (by omega) with⟨d2,e2,w2,u2,f2⟩|⟨hf,d2,e2,s2,u2⟩
  ·have hl2:d2.safe.length=d.safe.length:=w2.len.trans l1;have c2 : ∀ j:Int,0<=j->j<d.safe.length->curF d2 j=ya 3 ws 0 (curF d) j:=fun j j0 j1=>(w2.cur j j0 (by omega)).trans (c1 j);have c2o : ∀ j:Int,0<=j->j<d.safe.length->j<3\/20<=j->curF d2 j=curF d j:=fun j j0 j1 hj=>(c2 j j0 j1).trans (jx 3 ws 0 _ _ fun h=>by have:=hpt j h;omega);have c2p : ∀ (k:Nat) (h:k<ws.length),curF d2 (3+k)=ws[k].2:=fun k h=>by
    rw[c2 _ (by omega) (by omega)];have:=zh0 ws 0 (curF d) k h;rwa [show (3:Int)+0+k=3+k by omega]at this
   have old2 : ∀ s,Img d2 s->∃ s0,Img d s0/\∀ j:Int,0<=j->j<d.safe.length->j<3\/20<=j->s j=s0 j:=fun s hs=>
    ⟨curF d,zhv d,fun j j0 j1 hj=>(ks w2.still hs j j0 (by omega)).trans (c2o j j0 j1 hj)⟩
   rcases zb2 u2 (n:=2) ⟨by omega,by omega⟩ (zcs (n+1) ws hl16).2 with⟨d3,e3,w3,u3,f3⟩|⟨hf,d3,e3,s3,u3⟩
   ·have hl3:d3.safe.length=d.safe.length:=w3.len.trans hl2;have c3 : ∀ j:Int,0<=j->j<d.safe.length->curF d3 j=if j=2 then qr (n+1) ws else curF d2 j:=fun j _ _=>w3.cur j
    have mid : ∀ s:Int->Bk,(∀ j:Int,0<=j->j<d.safe.length->¬ xg 0 ws 0 j->s j=curF d3 j)->RecI s 0 n (yg n)->(RecI s 0 n (yg n)/\s 2=qr (n+1) ws/\(∀ (k:Nat) (h:k<ws.length),s (3+k)=ws[k].2)/\∀ j:Int,20<=j->j<d.safe.length->¬ xg 0 ws 0 j->s j=curF d j):=fun s hs hrs=>by
     refine⟨hrs,?_,fun k h=>?_,fun j j0 j1 hj=>?_⟩
     ·rw[hs 2 (by omega) (by omega) fun h=>by have:=hhm 2 h;omega,c3 2 (by omega) (by omega),if_pos rfl]
     ·rw[hs _ (by omega) (by omega) fun h=>by have:=hhm _ h;omega,c3 _ (by omega) (by omega),if_neg (by omega)];exact c2p k h
     ·rw[hs j (by omega) j1 hj,c3 j (by omega) j1,if_neg (by omega)];exact c2o j (by omega) j1 (.inr j0)
    have hr3:Rec d3 0 n (yg n):=hr.cur (by rw[c3 0 (by omega) (by omega),if_neg (by omega)];exact c2o 0 (by omega) (by omega) (.inl (by omega))) (by rw[c3 (0+1) (by omega) (by omega),if_neg (by omega)];exact c2o (0+1) (by omega) (by omega) (.inl (by omega)));have old3 : ∀ s,Img d3 s->(∃ s0,Img d s0/\∀ j:Int,0<=j->j<d.safe.length->j<3\/20<=j->s j=s0 j)\/(RecI s 0 n (yg n)/\s 2=qr (n+1) ws/\(∀ (k:Nat) (h:k<ws.length),s (3+k)=ws[k].2)/\∀ j:Int,20<=j->j<d.safe.length->¬ xg 0 ws 0 j->s j=curF d j):=fun s hs=>by
     rcases w3.img hs with⟨s0,h1,h2,h3⟩|h1
     ·right;have hs3 : ∀ j:Int,0<=j->j<d.safe.length->s j=curF d3 j:=fun j j0 j1=>by
       rw[c3 j j0 j1];by_cases hj:j=2
       ·rw[if_pos hj,hj];exact h3
       ·rw[if_neg hj,h2 j hj];exact ks w2.still h1 j j0 (by omega)
      exact mid s (fun j j0 j1 _=>hs3 j j0 j1) (zho hr3 (hs3 0 (by omega) (by omega)) (hs3 (0+1) (by omega) (by omega)))
     ·exact .inl (old2 s h1)
    rcases zcg u3 (by omega) with⟨d4,e4,w4,u4,f4⟩|⟨hf,d4,e4,s4,u4⟩
    ·have hl4:d4.safe.length=d.safe.length:=w4.len.trans hl3;have c4 : ∀ j:Int,0<=j->j<d.safe.length->curF d4 j=curF d3 j:=fun j j0 j1=>w4.cur j j0 (by omega);have hr4:Rec d4 0 n (yg n):=hr3.cur (c4 0 (by omega) (by omega)) (c4 (0+1) (by omega) (by omega));have c4h : ∀ j:Int,20<=j->j<d.safe.length->curF d4 j=curF d j:=fun j j0 j1=>by
      rw[c4 j (by omega) j1,c3 j (by omega) j1,if_neg (by omega)];exact c2o j (by omega) j1 (.inr j0)
     have h42 : ∀ c:Int->Bk,c 2=curF d4 2->ya 0 ws 0 c 2=qr (n+1) ws:=fun c h=>by
      rw[jx 0 ws 0 _ _ fun h=>by have:=hhm 2 h;omega,h,c4 2 (by omega) (by omega),c3 2 (by omega) (by omega),if_pos rfl]
     obtain⟨hap,hres⟩:=zk5 u4 w4.still (by omega) hn hr4 ws hok (by rw[hl4];exact hin);obtain⟨y0,-,-,-,-,y5⟩:=hcodes _ _ _ _ e1.symm e2.symm e3.symm e4.symm;have y6:=y5 rfl rfl rfl rfl;refine⟨y0 fun _ _ _ _=>hap,?_⟩;rcases hres with⟨d5,e5,u5,s5,l5,f5,r5,c5⟩|⟨hf,d5,e5,u5,l5,k5⟩
     ·left;refine⟨d5,y6.trans e5,u5,s5,l5.trans hl4,fun h=>f5 (f4 (f3 (f2 (f1 h)))),r5,?_,fun j j0 j1=>?_⟩
      ·rw[c5 2 (by omega) (by omega)];exact h42 _ rfl
      ·rw[c5 j (by omega) (by omega)];exact zb4 0 ws 0 _ _ j (c4h j j0 j1)
     ·right;refine⟨fun h=>hf (f4 (f3 (f2 (f1 h)))),d5,y6.trans e5,u5,l5.trans hl4,fun s hs=>?_⟩;rcases k5 s hs with⟨h1,h2⟩|⟨h1,h2⟩
      ·right;left;have h3 : ∀ j:Int,2<=j->j<d.safe.length->¬ xg 0 ws 0 j->s j=curF d3 j:=fun j j0 j1 hj=>(h2 j j0 (by omega) hj).trans (c4 j (by omega) j1);refine⟨h1,?_,fun k h=>?_,fun j j0 j1 hj=>?_⟩
       ·rw[h3 2 (by omega) (by omega) fun h=>by have:=hhm 2 h;omega,c3 2 (by omega) (by omega),if_pos rfl]
       ·rw[h3 _ (by omega) (by omega) fun h=>by have:=hhm _ h;omega,c3 _ (by omega) (by omega),if_neg (by omega)];exact c2p k h
       ·rw[h3 j (by omega) j1 hj,c3 j (by omega) j1,if_neg (by omega)];exact c2o j (by omega) j1 (.inr j0)
      ·right;right;refine⟨h1,?_,fun j j0 j1=>?_⟩
       ·rw[h2 2 (by omega) (by omega)];exact h42 _ rfl
       ·rw[h2 j (by omega) (by omega)];exact zb4 0 ws 0 _ _ j (c4h j j0 j1)
    ·obtain⟨y0,-,-,-,y4,-⟩:=hcodes _ _ _ _ e1.symm e2.symm e3.symm e4.symm;refine⟨y0 fun _ _ _ h=>absurd h (by simp),.inr ⟨fun h=>hf (f3 (f2 (f1 h))),d4,y4 rfl rfl rfl (by simp),u4,s4.len.trans hl3,fun s hs=>?_⟩⟩;rcases old3 s (s4.img hs) with h|h
     ·exact .inl h
     ·exact .inr (.inl h)
   ·obtain⟨y0,-,-,y3,-,-⟩:=hcodes _ _ _ _ e1.symm e2.symm e3.symm rfl;exact⟨y0 fun _ _ h=>absurd h (by simp),.inr ⟨fun h=>hf (f2 (f1 h)),d3,y3 rfl rfl (by simp),u3,s3.len.trans hl2,fun s hs=>.inl (old2 s (s3.img hs))⟩⟩
  ·obtain⟨y0,-,y2,-,-,-⟩:=hcodes _ _ _ _ e1.symm e2.symm rfl rfl;exact⟨y0 fun _ h=>absurd h (by simp),.inr ⟨fun h=>hf (f1 h),d2,y2 rfl (by simp),u2,s2.len.trans l1,fun s hs=>.inl (old1 s (s2.img hs))⟩⟩
 ·obtain⟨y0,y1,-,-,-,-⟩:=hcodes _ _ _ _ e1.symm rfl rfl rfl;refine⟨y0 fun h=>absurd h (by simp),.inr ⟨hf,d1,y1 (by simp),u1,l1,fun s hs=>.inl ?_⟩⟩;obtain⟨s0,h1,h2⟩:=k1 s hs;exact⟨s0,h1,fun j _ _ hj=>h2 j fun h=>by have:=hpt j h;omega⟩
open Go.RowKit
structure LogS (L:Nat) (s:Int->Bk) (n:Nat) (H:Int->Bk):Prop where
 rec':RecI s 0 n (yg n)
 num : ∀ m,k7 (s 2)=some m->m<=n
 home : ∀ j:Int,20<=j->j<L->s j=H j
structure WaitS (L:Nat) (s:Int->Bk) (n:Nat) (ws:List JW) (H:Int->Bk):Prop where
 rec':RecI s 0 n (yg n)
 list:s 2=qr (n+1) ws
 part : ∀ (k:Nat) (h:k<ws.length),s (3+k)=ws[k].2
 home : ∀ j:Int,20<=j->j<L->¬ xg 0 ws 0 j->s j=H j
def St (L:Nat) (s:Int->Bk) (n:Nat) (H:Int->Bk) (res:Option (List JW)):Prop:=(res=none/\LogS L s n H)\/∃ ws,res=some ws/\WaitS L s n ws H
def Hn (H:Int->Bk) (res:Option (List JW)):Int->Bk:=ya 0 (res.getD []) 0 H
def WsIn (L:Nat) (ws:List JW):Prop:=WsOk ws/\∀ p∈ws,p.1<(L:Int)-20
theorem zjj (L:Nat):WsIn L []:=⟨⟨by simp,by simp⟩,by simp⟩
theorem zh1 (frm:Int) : ∀ (ws:List JW) (i:Int) (c c':Int->Bk) (j:Int),(¬ xg frm ws i j->c j=c' j)->ya frm ws i c j=ya frm ws i c' j
 | [],_,_,_,_,h=>h fun h=>h
 | p :: ps,i,c,c',j,h=>by
  refine zh1 frm ps (i+1) _ _ j fun h1=>?_;show (if _ then _ else _)=(if _ then _ else _)
  by_cases e:j=posF frm p i
  ·rw[if_pos e,if_pos e]
  ·rw[if_neg e,if_neg e];exact h fun h2=>by
              rcases h2 with h2|h2
              ·exact e h2
              ·exact h1 h2
theorem zd8 (n:Nat) (hn:n<=18446744073709551615) (ws:List JW) (hok:WsOk ws):k7 (qr n ws)=some n:=by
 obtain⟨m,D,R0,k1,k2,rest,p1,p2,p3,p4,p5,p6,-⟩:=zfy n hn ws hok;unfold k7;rw[p1];dsimp only;rw[p5,p6,if_pos ⟨rfl,⟨p2,p3⟩,rfl⟩]
theorem LogS.mono {L:Nat}{s:Int->Bk}{n:Nat}{H H':Int->Bk} (h:LogS L s n H) (hh : ∀ j:Int,20<=j->j<L->H j=H' j):LogS L s n H':=⟨h.rec',h.num,fun j a b=>(h.home j a b).trans (hh j a b)⟩
theorem ztj {d:Dv} (hu:Up d) (hst:qk d) {L:Nat} (hL:d.safe.length=L) (hl:64<=L) {n:Nat} (hn:n<=999999990) {H:Int->Bk}{res:Option (List JW)} (hs:St L (curF d) n H res) (hin:WsIn L (res.getD [])) :
  jf d (res.getD [])/\
  ((∃ d',yu d n (res.getD [])=(0,d')/\Up d'/\qk d'/\d'.safe.length=L/\(d.fuse = -1->d'.fuse = -1)/\LogS L (curF d') (n+1) (Hn H res))\/
   (d.fuse≠ -1/\∃ d',yu d n (res.getD [])=(2,d')/\d'.down=true/\d'.safe.length=L/\∀ s,Img d' s->St L s n H res\/LogS L s (n+1) (Hn H res))):=by
 subst hL;have hr:Rec d 0 n (yg n):=by
  rcases hs with⟨-,h⟩|⟨ws,-,h⟩
  ·exact h.rec'
  ·exact h.rec'
 have hwn : ∀ ws:List JW,WsIn d.safe.length ws->∀ j,xg 0 ws 0 j->20<=j:=fun ws h j hj=>zbj ws 0 j (fun p hp=>(h.1.2 p hp).1) hj;have hok:=hin.1;obtain⟨h1,h2⟩:=zk5 hu hst hl hn hr (res.getD []) hin.1 hin.2;have hnum : ∀ s:Int->Bk,s 2=curF d 2->∀ m,k7 (s 2)=some m->m<=n+1:=fun s e m hm=>by
  rw[e]at hm;rcases hs with⟨-,h⟩|⟨ws,hres,h⟩
  ·have:=h.num m hm;omega
  ·subst hres;rw[h.list,zd8 _ (by omega) ws hok]at hm;cases hm;omega
 have hdone : ∀ s:Int->Bk,RecI s 0 (n+1) (yg (n+1))->(∀ j:Int,2<=j->j<d.safe.length->s j=ya 0 (res.getD []) 0 (curF d) j)->LogS d.safe.length s (n+1) (Hn H res):=fun s h3 h4=>by
  refine⟨h3,hnum s ?_,fun j j0 j1=>?_⟩
  ·rw[h4 2 (by omega) (by omega),jx 0 _ 0 _ _ fun h=>by have:=hwn _ hin 2 h;omega]
  ·rw[h4 j (by omega) j1];refine zh1 0 _ 0 _ _ j fun hj=>?_;rcases hs with⟨hres,h⟩|⟨ws,hres,h⟩
   ·exact h.home j j0 j1
   ·subst hres;exact h.home j j0 j1 hj
 refine⟨h1,?_⟩;rcases h2 with⟨d',e,u',s',l',f',r',c'⟩|⟨hf,d',e,u',l',k'⟩
 ·exact .inl ⟨d',e,u',s',l',f',hdone _ r' c'⟩
 ·refine .inr ⟨hf,d',e,u',l',fun s hi=>?_⟩;rcases k' s hi with⟨h3,h4⟩|⟨h3,h4⟩
  ·left;have h2':s 2=curF d 2:=h4 2 (by omega) (by omega) fun h=>by have:=hwn _ hin 2 h;omega
   rcases hs with⟨hres,h⟩|⟨ws,hres,h⟩
   ·subst hres;exact .inl ⟨rfl,h3,fun m hm=>h.num m (by rw[<-h2'];exact hm),fun j j0 j1=>(h4 j (by omega) j1 fun h=>h).trans (h.home j j0 j1)⟩
   ·subst hres;refine .inr ⟨ws,rfl,h3,h2'.trans h.list,fun k hk=>?_,fun j j0 j1 hj=>(h4 j (by omega) j1 hj).trans (h.home j j0 j1 hj)⟩;have h16:=hok.1;simp only[Option.getD_some]at h16;exact(h4 _ (by omega) (by omega) fun h=>by have:=hwn _ hin _ h;omega).trans (h.part k hk)
  ·exact .inr (hdone s h3 h4)
theorem zix {d:Dv} (hu:Up d) {L:Nat} (hL:d.safe.length=L) (hl:64<=L) {n:Nat} (hn:n<=999999990) (hi : ∀ s,Img d s->RecI s 0 n (yg n)/\∀ m,k7 (s 2)=some m->m<=n) (ws:List JW) (hin:WsIn L ws) :
  ((com1 d ws).1=0->(com2 d ws).1=0->(com3 d n ws).1=0->(com4 d n ws).1=0->jf (com4 d n ws).2 ws)/\
  ((∃ d',yr d n ws=(0,d')/\Up d'/\qk d'/\d'.safe.length=L/\(d.fuse = -1->d'.fuse = -1)/\LogS L (curF d') (n+1) (ya 0 ws 0 (curF d)))\/
   (d.fuse≠ -1/\∃ d',yr d n ws=(2,d')/\d'.down=true/\d'.safe.length=L/\∀ s,Img d' s->
    (∃ s0,Img d s0/\LogS L s n s0)\/WaitS L s n ws (curF d)\/LogS L s (n+1) (ya 0 ws 0 (curF d)))):=by
 subst hL;obtain⟨h1,h2⟩:=zqw hu hl hn (hi _ (zhv d)).1 ws hin.1 hin.2;have hnum : ∀ s:Int->Bk,s 2=qr (n+1) ws->∀ m,k7 (s 2)=some m->m<=n+1:=fun s e m hm=>by
  rw[e,zd8 _ (by omega) ws hin.1]at hm;cases hm;omega
 refine⟨h1,?_⟩;rcases h2 with⟨d',e,u',s',l',f',r',c',k'⟩|⟨hf,d',e,u',l',k'⟩
 ·exact .inl ⟨d',e,u',s',l',f',r',hnum _ c',k'⟩
 ·refine .inr ⟨hf,d',e,u',l',fun s hs=>?_⟩;rcases k' s hs with⟨s0,h3,h4⟩|⟨h3,h4,h5,h6⟩|⟨h3,h4,h5⟩
  ·left;obtain⟨h7,h8⟩:=hi s0 h3;refine⟨s0,h3,h7.cur (h4 0 (by omega) (by omega) (.inl (by omega))) (h4 (0+1) (by omega) (by omega) (.inl (by omega))),fun m hm=>h8 m ?_,fun j j0 j1=>h4 j (by omega) j1 (.inr j0)⟩;rw[<-h4 2 (by omega) (by omega) (.inl (by omega))];exact hm
  ·exact .inr (.inl ⟨h3,h4,h5,h6⟩)
  ·exact .inr (.inr ⟨h3,hnum s h4,h5⟩)
open Go.RowKit Go.Maps
structure LogAt (w W:World) (g:Nat) (ρ:Nat->Option DRol) (N:Nat) (d:Dv) (gl L n:Nat) (H:Int->Bk):Prop where
 hm:Mine w W g ρ N d
 up:Up d
 st:qk d
 len:d.safe.length=L
 log:LogRow W gl g ((L:Int)-20) n false
 low:w.heap.size<=gl
 rol:ρ gl=none
 sp:LogS L (curF d) n H
structure DownAt (w W:World) (g:Nat) (ρ:Nat->Option DRol) (N:Nat) (d:Dv) (L:Nat) (P:(Int->Bk)->Prop):Prop where
 hm:Mine w W g ρ N d
 down:d.down=true
 len:d.safe.length=L
 img : ∀ s,Img d s->P s
theorem Same.curf {d d':Dv} (h:Same d d'):curF d'=curF d:=funext h.cur
theorem zxp {w W:World}{g:Nat}{ρ:Nat->Option DRol}{N:Nat}{d:Dv} (hm:Mine w W g ρ N d) (hN:N<=999700000) (hu:Up d) (hst:qk d) {L:Nat} (hL:d.safe.length=L) (hl:64<=L/\L<=1000) {n:Nat} (hn:n<=100000000) {H:Int->Bk}{res:Option (List JW)} (hs:St L (curF d) n H res) (hin:WsIn L (res.getD [])) :
  Calls Tryz.prog 59 #[.pointer (some ⟨g,0,none⟩)] W fun e W'=>∃ ρ' d',RolNew ρ ρ' W/\Keep (fun k=>ρ k=none) W W'/\
   ((∃ gl,e = .returned (.tuple #[.pointer (some ⟨gl,0,none⟩),.int .i64 0])/\LogAt w W' g ρ' (N+300) d' gl L (n+1) (Hn H res)/\W.heap.size<=gl/\(d.fuse = -1->d'.fuse = -1))\/
    (e = .returned (.tuple #[.pointer none,.int .i64 2])/\d.fuse≠ -1/\DownAt w W' g ρ' (N+300) d' L fun s=>St L s n H res\/LogS L s (n+1) (Hn H res))):=by
 have hr:Rec d 0 n (yg n):=by
  rcases hs with⟨-,h⟩|⟨ws,-,h⟩
  ·exact h.rec'
  ·exact h.rec'
 have happ : ∀ d0,Same d d0->Up d0->_:=fun d0 h1 h2=>ztj (d:=d0) h2 (h1.still hst) (L:=L) (h1.len.trans hL) hl.1 (n:=n) (by omega) (H:=H) (res:=res) (by rw[h1.curf];exact hs) hin;refine(zv7 hm hN hu (by omega) n hn hr res (fun hres h=>?_) (fun ws hres=>?_) (fun d0 h1 h2=>(happ d0 h1 h2).1)).mono ?_
 ·rcases hs with⟨-,h'⟩|⟨ws,e,-⟩
  ·have:=h'.num _ h;omega
  ·rw[hres]at e;cases e
 ·subst hres;rcases hs with⟨e,-⟩|⟨ws',e,h⟩
  ·cases e
  ·cases e;exact⟨hin.1,h.list,h.part⟩
 ·rintro e W' ⟨ρ',d',hm',hr',hk',hcase⟩;refine⟨ρ',d',hr',hk',?_⟩;rcases hcase with⟨rfl,hf,hsm,hd⟩|⟨d0,hsm,hu0,hf0,rfl,hcase⟩
  ·right;refine⟨rfl,hf,hm',hd,hsm.len.trans hL,fun s hi=>.inl ?_⟩;have hi':=ks hst (hsm.img hi);rw[hL]at hi';rcases hs with⟨e,h⟩|⟨ws,e,h⟩
   ·exact .inl ⟨e,h.rec'.cur (hi' 0 (by omega) (by omega)) (hi' (0+1) (by omega) (by omega)),by rw[hi' 2 (by omega) (by omega)];exact h.num,fun j a b=>(hi' j (by omega) b).trans (h.home j a b)⟩
   ·subst e;have h16:=hin.1.1;simp only[Option.getD_some]at h16;exact .inr ⟨ws,rfl,h.rec'.cur (hi' 0 (by omega) (by omega)) (hi' (0+1) (by omega) (by omega)),(hi' 2 (by omega) (by omega)).trans h.list,fun k hk=>(hi' _ (by omega) (by omega)).trans (h.part k hk),fun j a b c=>(hi' j (by omega) b).trans (h.home j a b c)⟩
  ·obtain⟨-,h3⟩:=happ d0 hsm hu0;rcases h3 with⟨d1,e1,u1,s1,l1,f1,g1⟩|⟨hf,d1,e1,u1,l1,g1⟩
   ·rw[e1]at hcase hm' ⊢;left;rcases hcase with⟨h,-⟩|⟨-,gl,rfl,h1,h2,h3⟩
    ·exact absurd rfl h
    ·exact⟨gl,rfl,⟨hm',u1,s1,l1,by rw[<-hL];exact h3,by have:=hm.ex.size;omega,h2,g1⟩,h1,fun h=>f1 (hf0 h)⟩
   ·rw[e1]at hcase hm' ⊢;right;rcases hcase with⟨-,rfl⟩|⟨h,-⟩
    ·exact⟨rfl,fun h=>hf (hf0 h),hm',u1,l1,g1⟩
    ·exact absurd h (by simp)
theorem zul {w W:World}{g:Nat}{ρ:Nat->Option DRol}{N:Nat}{d:Dv} (hm:Mine w W g ρ N d) (hN:N<=999700000) (hc:Calm d) (hst:qk d) {L:Nat} (hL:d.safe.length=L) (hl:64<=L/\L<=1000) {n:Nat} (hn:n<=100000000) {H:Int->Bk}{res:Option (List JW)} (hs:St L (curF d) n H res) (hin:WsIn L (res.getD [])) :
  Calls Tryz.prog 59 #[.pointer (some ⟨g,0,none⟩)] W fun e W'=>∃ ρ' d' gl,e = .returned (.tuple #[.pointer (some ⟨gl,0,none⟩),.int .i64 0])/\LogAt w W' g ρ' (N+300) d' gl L (n+1) (Hn H res)/\Calm d'/\RolNew ρ ρ' W/\Keep (fun k=>ρ k=none) W W'/\W.heap.size<=gl:=by
 refine(zxp hm hN (zde hc) hst hL hl hn hs hin).mono ?_;rintro e W' ⟨ρ',d',h1,h2,⟨gl,rfl,h3,h4,h5⟩|⟨-,h,-⟩⟩
 ·exact⟨ρ',d',gl,rfl,h3,zbx h3.up (h5 hc.2.1),h1,h2,h4⟩
 ·exact absurd hc.2.1 h
def zrm (L n:Nat) (ws:List JW) (H:Int->Bk) (s:Int->Bk):Prop:=LogS L s n H\/WaitS L s n ws H\/LogS L s (n+1) (ya 0 ws 0 H)
theorem zt1 {w W:World}{g:Nat}{ρ:Nat->Option DRol}{N:Nat}{d:Dv}{gl L n:Nat}{H:Int->Bk} (h:LogAt w W g ρ N d gl L n H) (hN:N<=999700000) (hl:64<=L/\L<=1000) (hn:n<=100000000) (v:Value) (ws:List JW) (hv:RdS rWr W (fun k=>ρ k=none/\k≠gl) v ws) (hin:WsIn L ws) :
  Calls Tryz.prog 76 #[.pointer (some ⟨gl,0,none⟩),v] W fun e W'=>∃ ρ' d',RolNew ρ ρ' W/\Keep (fun k=>ρ k=none/\k≠gl) W W'/\
   ((e = .returned (.int .i64 0)/\LogAt w W' g ρ' (N+500) d' gl L (n+1) (ya 0 ws 0 H)/\(d.fuse = -1->d'.fuse = -1))\/
    (e = .returned (.int .i64 2)/\d.fuse≠ -1/\DownAt w W' g ρ' (N+500) d' L (zrm L n ws H))):=by
 have hwc : ∀ j:Int,20<=j->j<L->ya 0 ws 0 (curF d) j=ya 0 ws 0 H j:=fun j a b=>zb4 0 ws 0 _ _ j (h.sp.home j a b);have himg : ∀ s,Img d s->RecI s 0 n (yg n)/\∀ m,k7 (s 2)=some m->m<=n:=fun s hi=>by
  have hi':=ks h.st hi;rw[h.len]at hi';exact⟨h.sp.rec'.cur (hi' 0 (by omega) (by omega)) (hi' (0+1) (by omega) (by omega)),by rw[hi' 2 (by omega) (by omega)];exact h.sp.num⟩
 obtain⟨h1,h2⟩:=zix h.up h.len hl.1 (n:=n) (by omega) himg ws hin;refine(zhj h.hm hN h.up.up gl _ (by omega) n hn h.log h.low h.rol v ws hv hin.1 (fun p hp=>hin.2 p hp) h1).mono ?_;rintro e W' ⟨rfl,ρ',hm',hr',hlog',hk'⟩;refine⟨ρ',(yr d n ws).2,hr',hk',?_⟩;rcases h2 with⟨d1,e1,u1,s1,l1,f1,g1⟩|⟨hf,d1,e1,u1,l1,g1⟩
 ·left;rw[e1]at hm' hlog' ⊢;rw[bu]at hlog';exact⟨rfl,⟨hm',u1,s1,l1,hlog',h.low,ky hr' h.rol h.log.lt,g1.mono hwc⟩,f1⟩
 ·right;rw[e1]at hm' ⊢;refine⟨rfl,hf,hm',u1,l1,fun s hi=>?_⟩;rcases g1 s hi with⟨s0,h3,h4⟩|h4|h4
  ·have hi':=ks h.st h3;rw[h.len]at hi';exact .inl (h4.mono fun j a b=>(hi' j (by omega) b).trans (h.sp.home j a b))
  ·exact .inr (.inl ⟨h4.rec',h4.list,h4.part,fun j a b c=>(h4.home j a b c).trans (h.sp.home j a b)⟩)
  ·exact .inr (.inr (h4.mono hwc))
theorem zwg {w W:World}{g:Nat}{ρ:Nat->Option DRol}{N:Nat}{d:Dv}{gl L n:Nat}{H:Int->Bk} (h:LogAt w W g ρ N d gl L n H) (hc:Calm d) (hN:N<=999700000) (hl:64<=L/\L<=1000) (hn:n<=100000000) (v:Value) (ws:List JW) (hv:RdS rWr W (fun k=>ρ k=none/\k≠gl) v ws) (hin:WsIn L ws) :
  Calls Tryz.prog 76 #[.pointer (some ⟨gl,0,none⟩),v] W fun e W'=>∃ ρ' d',e = .returned (.int .i64 0)/\LogAt w W' g ρ' (N+500) d' gl L (n+1) (ya 0 ws 0 H)/\Calm d'/\RolNew ρ ρ' W/\Keep (fun k=>ρ k=none/\k≠gl) W W':=by
 refine(zt1 h hN hl hn v ws hv hin).mono ?_;rintro e W' ⟨ρ',d',h1,h2,⟨rfl,h3,h5⟩|⟨-,h,-⟩⟩
 ·exact⟨ρ',d',rfl,h3,zbx h3.up (h5 hc.2.1),h1,h2⟩
 ·exact absurd hc.2.1 h
theorem zuk {w W:World}{g:Nat}{ρ:Nat->Option DRol}{N:Nat}{d:Dv}{gl L n:Nat}{H:Int->Bk} (h:LogAt w W g ρ N d gl L n H) (hc:Calm d) (hN:N<=999999000) (hl:64<=L/\L<=1000) (j:Int) (hj:0<=j/\j<(L:Int)-20) :
  Calls Tryz.prog 63 #[.pointer (some ⟨gl,0,none⟩),.int .i64 j] W fun e W'=>
   ∃ k,e = .returned (.tuple #[.slice (some ⟨k,0,none⟩) 512 512,.int .i64 0])/\W.heap.size<=k/\RdB W' (.slice (some ⟨k,0,none⟩) 512 512) (H (20+j))/\(H (20+j)).length=512/\
   ∃ d',LogAt w W' g ρ (N+1) d' gl L n H/\Calm d'/\Keep (fun k=>k≠g/\k≠gl) W W':=by
 refine(zre h.hm hN hc gl h.low h.rol _ (by omega) (by have:=h.len;omega) n h.log j hj).mono ?_;rintro e W' ⟨k,rfl,hk,hrow,hb,d',hm',hc',hs',hlog',hkp⟩;rw[h.sp.home (20+j) (by omega) (by omega)]at hrow hb;exact⟨k,rfl,hk,zbz hrow hb,hb,d',⟨hm',zde hc',hs'.still h.st,hs'.len.trans h.len,hlog',h.low,h.rol,by rw[hs'.curf];exact h.sp⟩,hc',hkp⟩
end
end Go.Proofs.YtnadlnmclameiaaGreatDoor
