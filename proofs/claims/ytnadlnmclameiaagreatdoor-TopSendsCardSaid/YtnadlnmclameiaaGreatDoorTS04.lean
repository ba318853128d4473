/- part 4 -/
import Derived.Test.YtnadlnmclameiaaGreatDoorTS03
set_option maxRecDepth 100000
set_option maxHeartbeats 8000000
set_option linter.all false
namespace Go.Proofs.YtnadlnmclameiaaGreatDoor
section
open Go.RowKit Go.Maps
inductive CRol where
 | head|cmap|val
 | item (k:Nat)
def ItP (ι:Nat->Option CRol) (p:Option Addr):Prop:=p=none\/∃ i k,p=some ⟨i,0,none⟩/\ι i=some (.item k)
theorem ItP.nil (ι:Nat->Option CRol):ItP ι none:=.inl rfl
theorem ItP.it {ι:Nat->Option CRol}{i k:Nat} (h:ι i=some (.item k)):ItP ι (some ⟨i,0,none⟩):=.inr ⟨i,k,rfl,h⟩
def byM (q:Nat) (it:Nat->Nat):Int->Option Value:=fun n=>if 16<=n/\n<16+(q:Int) then some (.pointer (some ⟨it (n-16).toNat,0,none⟩)) else none
structure CaP (w:World) (ι:Nat->Option CRol) (gc gm q:Nat) (f:Nat->Bk) (it:Nat->Nat) (vs:Nat->Value):Prop where
 head : ∃ po pf,ItP ι po/\ItP ι pf/\w.heap[gc]? = some (.cells #[.int .i64 16,.map (some gm),.pointer po,.pointer pf] 198 (0,0))
 rh:ι gc=some .head
 map:MapG kInt w gm q (byM q it)
 rm:ι gm=some .cmap
 items : ∀ k,k<q->∃ po pn,ItP ι po/\ItP ι pn/\w.heap[it k]? = some (.cells #[.int .i64 (16+k),vs k,.bool false,.int .i64 0,.pointer po,.pointer pn] 264 (0,0))
 ri : ∀ k,k<q->ι (it k)=some (.item k)
 own : ∀ i k,ι i=some (.item k)->k<q/\i=it k
 vals : ∀ k,k<q->RdB w (vs k) (f k)/\∀ b,(vs k).ownBlock=some b->ι b=some .val
 lt : ∀ b,ι b≠none->b<w.heap.size
 few:q<=16
section
variable {w w':World}{ι:Nat->Option CRol}{gc gm q:Nat}{f:Nat->Bk}{it:Nat->Nat}{vs:Nat->Value}
theorem CaP.keep (h:CaP w ι gc gm q f it vs) (hk:Keep (fun b=>ι b≠none) w w'):CaP w' ι gc gm q f it vs where
 head:=by
  obtain⟨po,pf,h1,h2,h3⟩:=h.head;exact⟨po,pf,h1,h2,(hk.block gc (by rw[h.rh];simp) (h.lt gc (by rw[h.rh];simp))).trans h3⟩
 rh:=h.rh
 map:=h.map.kept hk (by rw[h.rm];simp)
 rm:=h.rm
 items k hq:=by
  obtain⟨po,pn,h1,h2,h3⟩:=h.items k hq;exact⟨po,pn,h1,h2,(hk.block _ (by rw[h.ri k hq];simp) (h.lt _ (by rw[h.ri k hq];simp))).trans h3⟩
 ri:=h.ri
 own:=h.own
 vals k hq:=⟨Rd.carry0 (h.vals k hq).1 hk.size fun _ b hb hl=>hk.block b (by rw[(h.vals k hq).2 b hb];simp) hl,(h.vals k hq).2⟩
 lt b hb:=Nat.lt_of_lt_of_le (h.lt b hb) hk.size
 few:=h.few
theorem CaP.ext (h:CaP w ι gc gm q f it vs) (hx:Ext w w'):CaP w' ι gc gm q f it vs:=h.keep (hx.keep _)
theorem CaP.setIt (h:CaP w ι gc gm q f it vs) {i k:Nat} (hi:ι i=some (.item k)) {p:Option Addr} (hp:ItP ι p) (o:Nat) (ho:o=4\/o=5):CaP (w.setCell ⟨i,o,none⟩ (.pointer p)) ι gc gm q f it vs:=by
 have hk:Keep (fun b=>b≠i) w (w.setCell ⟨i,o,none⟩ (.pointer p)):=(Keep.refl _ _).setCell (by simp) _;have hne : ∀ b r,ι b=some r->(∀ k,r≠ .item k)->b≠i:=fun b r hb hr e=>by subst e;rw[hi]at hb;exact hr k (Option.some.inj hb).symm
 have hhd:gc≠i:=hne gc _ h.rh (by simp);have hmp:gm≠i:=hne gm _ h.rm (by simp);refine { h with head:= ?_,map:=h.map.kept hk hmp,items:=fun j hj=>?_,vals:=fun j hj=>⟨?_,(h.vals j hj).2⟩,lt:=fun b hb=>by simp[World.setCell];exact h.lt b hb }
 ·obtain⟨po,pf,h1,h2,h3⟩:=h.head;exact⟨po,pf,h1,h2,(hk.block gc hhd (blt h3)).trans h3⟩
 ·obtain⟨po,pn,h1,h2,h3⟩:=h.items j hj;by_cases e:it j=i
  ·have h4:=zw (o:=o) (e▸h3) (.pointer p);rcases ho with rfl|rfl
   ·exact⟨p,pn,hp,h2,by rw[e];exact h4.trans rfl⟩
   ·exact⟨po,p,h1,hp,by rw[e];exact h4.trans rfl⟩
  ·exact⟨po,pn,h1,h2,(hk.block _ e (blt h3)).trans h3⟩
 ·exact Rd.carry0 (h.vals j hj).1 hk.size fun _ b hb hl=>hk.block b (hne b _ ((h.vals j hj).2 b hb) (by simp)) hl
theorem CaP.setHd (h:CaP w ι gc gm q f it vs) {p:Option Addr} (hp:ItP ι p) (o:Nat) (ho:o=2\/o=3):CaP (w.setCell ⟨gc,o,none⟩ (.pointer p)) ι gc gm q f it vs:=by
 have hk:Keep (fun b=>b≠gc) w (w.setCell ⟨gc,o,none⟩ (.pointer p)):=(Keep.refl _ _).setCell (by simp) _;have hne : ∀ b r,ι b=some r->r≠ .head->b≠gc:=fun b r hb hr e=>by subst e;rw[h.rh]at hb;exact hr (Option.some.inj hb).symm
 refine { h with head:= ?_,map:=h.map.kept hk (hne gm _ h.rm (by simp)),items:=fun j hj=>?_,vals:=fun j hj=>⟨?_,(h.vals j hj).2⟩,lt:=fun b hb=>by simp[World.setCell];exact h.lt b hb }
 ·obtain⟨po,pf,h1,h2,h3⟩:=h.head;have h4:=zw (o:=o) h3 (.pointer p);rcases ho with rfl|rfl
  ·exact⟨p,pf,hp,h2,h4.trans rfl⟩
  ·exact⟨po,p,h1,hp,h4.trans rfl⟩
 ·obtain⟨po,pn,h1,h2,h3⟩:=h.items j hj;exact⟨po,pn,h1,h2,(hk.block _ (hne _ _ (h.ri j hj) (by simp)) (blt h3)).trans h3⟩
 ·exact Rd.carry0 (h.vals j hj).1 hk.size fun _ b hb hl=>hk.block b (hne b _ ((h.vals j hj).2 b hb) (by simp)) hl
structure LkAt (w:World) (ι:Nat->Option CRol) (i:Nat) (po pn:Option Addr):Prop where
 c4:w.cell? ⟨i,4,none⟩=some (.pointer po)
 c5:w.cell? ⟨i,5,none⟩=some (.pointer pn)
 f4:w.frozen? ⟨i,4,none⟩=false
 f5:w.frozen? ⟨i,5,none⟩=false
 lo:ItP ι po
 ln:ItP ι pn
theorem CaP.lk (h:CaP w ι gc gm q f it vs) {i k:Nat} (hi:ι i=some (.item k)) : ∃ po pn,LkAt w ι i po pn:=by
 obtain⟨hq,rfl⟩:=h.own i k hi;obtain⟨po,pn,h1,h2,h3⟩:=h.items k hq;exact⟨po,pn,(cr _ h3),(cr _ h3),zg h3 4,zg h3 5,h1,h2⟩
structure HdAt (w:World) (ι:Nat->Option CRol) (gc gm:Nat) (po pf:Option Addr):Prop where
 c0:w.cell? ⟨gc,0,none⟩=some (.int .i64 16)
 c1:w.cell? ⟨gc,1,none⟩=some (.map (some gm))
 c2:w.cell? ⟨gc,2,none⟩=some (.pointer po)
 c3:w.cell? ⟨gc,3,none⟩=some (.pointer pf)
 f2:w.frozen? ⟨gc,2,none⟩=false
 f3:w.frozen? ⟨gc,3,none⟩=false
 lo:ItP ι po
 lf:ItP ι pf
theorem CaP.hd (h:CaP w ι gc gm q f it vs) : ∃ po pf,HdAt w ι gc gm po pf:=by
 obtain⟨po,pf,h1,h2,h3⟩:=h.head;exact⟨po,pf,(cr _ h3),(cr _ h3),(cr _ h3),(cr _ h3),zg h3 2,zg h3 3,h1,h2⟩
theorem CaP.ne (h:CaP w ι gc gm q f it vs) {i k:Nat} (hi:ι i=some (.item k)):i≠gc:=fun e=>by subst e;rw[h.rh]at hi;cases hi
def CaStep (ι:Nat->Option CRol) (w w':World):Prop:=Keep (fun b=>ι b=none) w w'/\w'.heap.size=w.heap.size
theorem CaStep.trans {a b c:World} (h:CaStep ι a b) (k:CaStep ι b c):CaStep ι a c:=⟨h.1.trans k.1,k.2.trans h.2⟩
theorem CaStep.drew {a b:World} (h:CaStep ι a b):CaStep ι a b.drew:=h.trans ⟨((Ext.refl b).drew).keep _,rfl⟩
theorem CaStep.set {a:World}{i o:Nat}{r:CRol} (hi:ι i=some r) (u:Value):CaStep ι a (a.setCell ⟨i,o,none⟩ u):=⟨(Keep.refl _ _).setCell (by simp[hi]) _,by simp[World.setCell]⟩
end
section
variable {w:World}{ι:Nat->Option CRol}{gc gm q:Nat}{f:Nat->Bk}{it:Nat->Nat}{vs:Nat->Value}
theorem zvo {w:World}{ι:Nat->Option CRol}{i:Nat}{po pn:Option Addr} (h:LkAt w ι i po pn) {j:Nat}{c:Array Value}{t:TypeId} (hr:w.heap[i]? = some (.cells c t (0,0))):LkAt (w.setCell ⟨j,5,none⟩ (.pointer pn)) ι i po pn:=by
 by_cases e:j=i
 ·subst e;have h4:=zw (o:=5) hr (.pointer pn);have c4:=h.c4;have c5:=h.c5;rw[cell_of_row _ _ _ _ _ _ hr]at c4 c5;refine⟨?_,?_,zg h4 4,zg h4 5,h.lo,h.ln⟩
  ·rw[cell_of_row _ _ _ _ _ _ h4,Array.getElem?_setIfInBounds_ne (by omega)];exact c4
  ·rw[cell_of_row _ _ _ _ _ _ h4];have:5<c.size:=(blt c5)
   simp[this]
 ·have hk:Keep (fun b=>b≠j) w (w.setCell ⟨j,5,none⟩ (.pointer pn)):=(Keep.refl _ _).setCell (by simp) _;have hb:=(hk.block i (fun e'=>e e'.symm) (blt hr)).trans hr;exact⟨hk.cell h.c4 (fun e'=>e e'.symm),hk.cell h.c5 (fun e'=>e e'.symm),zg hb 4,zg hb 5,h.lo,h.ln⟩
theorem zvp {w:World}{ι:Nat->Option CRol}{i:Nat}{po pn:Option Addr} (h:LkAt w ι i po pn) {j:Nat}{c:Array Value}{t:TypeId} (hr:w.heap[i]? = some (.cells c t (0,0))):LkAt (w.setCell ⟨j,4,none⟩ (.pointer po)) ι i po pn:=by
 by_cases e:j=i
 ·subst e;have h4:=zw (o:=4) hr (.pointer po);have c4:=h.c4;have c5:=h.c5;rw[cell_of_row _ _ _ _ _ _ hr]at c4 c5;refine⟨?_,?_,zg h4 4,zg h4 5,h.lo,h.ln⟩
  ·rw[cell_of_row _ _ _ _ _ _ h4];have:4<c.size:=(blt c4)
   simp[this]
  ·rw[cell_of_row _ _ _ _ _ _ h4,Array.getElem?_setIfInBounds_ne (by omega)];exact c5
 ·have hk:Keep (fun b=>b≠j) w (w.setCell ⟨j,4,none⟩ (.pointer po)):=(Keep.refl _ _).setCell (by simp) _;have hb:=(hk.block i (fun e'=>e e'.symm) (blt hr)).trans hr;exact⟨hk.cell h.c4 (fun e'=>e e'.symm),hk.cell h.c5 (fun e'=>e e'.symm),zg hb 4,zg hb 5,h.lo,h.ln⟩
theorem CaP.row (h:CaP w ι gc gm q f it vs) {i k:Nat} (hi:ι i=some (.item k)) : ∃ c,w.heap[i]? = some (.cells c 264 (0,0)):=by
 obtain⟨hq,rfl⟩:=h.own i k hi;obtain⟨po,pn,h1,h2,h3⟩:=h.items k hq;exact⟨_,h3⟩
theorem CaP.reg (h:CaP w ι gc gm q f it vs) {i k m km:Nat} (hi:ι i=some (.item k)) (hm:ι m=some (.item km)) {po pn:Option Addr} (hl:LkAt w ι i po pn) (o:Nat) (p:Option Addr) (ho:(o=4/\p=po)\/(o=5/\p=pn)) :
  CaP (w.setCell ⟨m,o,none⟩ (.pointer p)).drew ι gc gm q f it vs/\LkAt (w.setCell ⟨m,o,none⟩ (.pointer p)).drew ι i po pn/\CaStep ι w (w.setCell ⟨m,o,none⟩ (.pointer p)).drew:=by
 obtain⟨c,hr⟩:=h.row hi;refine⟨(h.setIt hm ?_ o (ho.imp And.left And.left)).ext (Ext.refl _).drew,?_,(CaStep.set hm _).drew⟩
 ·rcases ho with⟨-,rfl⟩|⟨-,rfl⟩
  ·exact hl.lo
  ·exact hl.ln
 ·rcases ho with⟨rfl,rfl⟩|⟨rfl,rfl⟩
  ·have:=zvp hl (j:=m) hr;exact⟨this.c4,this.c5,this.f4,this.f5,this.lo,this.ln⟩
  ·have:=zvo hl (j:=m) hr;exact⟨this.c4,this.c5,this.f4,this.f5,this.lo,this.ln⟩
theorem CaP.hdl (h:CaP w ι gc gm q f it vs) {i k:Nat} (hi:ι i=some (.item k)) {po pn:Option Addr} (hl:LkAt w ι i po pn) (o:Nat) (p:Option Addr) (ho:(o=2/\p=pn)\/(o=3/\p=po)) :
  CaP (w.setCell ⟨gc,o,none⟩ (.pointer p)) ι gc gm q f it vs/\LkAt (w.setCell ⟨gc,o,none⟩ (.pointer p)) ι i po pn/\CaStep ι w (w.setCell ⟨gc,o,none⟩ (.pointer p)):=by
 have hne:=h.ne hi;have hp:ItP ι p:=by
  rcases ho with⟨-,rfl⟩|⟨-,rfl⟩
  ·exact hl.ln
  ·exact hl.lo
 have hk:Keep (fun b=>b≠gc) w (w.setCell ⟨gc,o,none⟩ (.pointer p)):=(Keep.refl _ _).setCell (by simp) _;have h':=h.setHd hp o (ho.imp And.left And.left);obtain⟨c,hr⟩:=h'.row hi;exact⟨h',⟨hk.cell hl.c4 hne,hk.cell hl.c5 hne,zg hr 4,zg hr 5,hl.lo,hl.ln⟩,CaStep.set h.rh _⟩
theorem znl (w:World) (h:CaP w ι gc gm q f it vs) (i k:Nat) (hi:ι i=some (.item k)) :
  Calls Tryz.prog 168 #[.pointer (some ⟨gc,0,none⟩),.pointer (some ⟨i,0,none⟩)] w fun e w'=>e = .returned (.tuple #[])/\CaP w' ι gc gm q f it vs/\CaStep ι w w':=by
 have H:=hid h;have HI:=hid hi;obtain⟨po,pn,hl⟩:=h.lk hi;obtain⟨pa,pb,hd⟩:=h.hd;have HLK:=hid hl;obtain⟨c4,c5,f4,f5,lo,ln⟩:=hl;obtain⟨-,-,d2,d3,g2,g3,-,-⟩:=hd;have hne:=h.ne hi;have hne':gc≠i:=fun e=>hne e.symm;have fin : ∀ w1,CaP w1 ι gc gm q f it vs->CaStep ι w w1->CaP ((w1.setCell ⟨i,4,none⟩ (.pointer none)).setCell ⟨i,5,none⟩ (.pointer none)) ι gc gm q f it vs/\CaStep ι w ((w1.setCell ⟨i,4,none⟩ (.pointer none)).setCell ⟨i,5,none⟩ (.pointer none)):=fun w1 h1 h2=>
  ⟨(h1.setIt hi (ItP.nil _) 4 (.inl rfl)).setIt hi (ItP.nil _) 5 (.inr rfl),(h2.trans (CaStep.set hi _)).trans (CaStep.set hi _)⟩
 have FIN:=hid fin;clear fin h hi;rcases lo with rfl|⟨j,kj,rfl,hj⟩
 ·rcases ln with rfl|⟨m,km,rfl,hm⟩
  ·go_enter Tryz.func168,Tryz.ntmps168;go_wp2_with fail;go_end0;obtain⟨q1,q2⟩:=FIN.out _ ((H.out.setHd (ItP.nil _) 2 (.inl rfl)).setHd (ItP.nil _) 3 (.inr rfl)) ((CaStep.set H.out.rh _).trans (CaStep.set H.out.rh _));exact⟨rfl,q1,q2⟩
  ·have HM:=hid hm;clear hm;go_enter Tryz.func168,Tryz.ntmps168;go_wp2_with fail;obtain⟨hc1,hl1,hs1⟩:=H.out.hdl HI.out HLK.out 2 _ (.inl ⟨rfl,rfl⟩);generalize (w.setCell ⟨gc,2,none⟩ (.pointer (some ⟨m,0,none⟩)))=w1 at hc1 hs1 hl1 ⊢;have HC1:=hid hc1;have HS1:=hid hs1;have HL1:=hid hl1;have k4:=hl1.c4;have k5:=hl1.c5;clear c4 c5 f4 f5 d2 d3 g2 g3 hc1 hs1 hl1;obtain⟨_,_,um,-,km,-,-,-⟩:=HC1.out.lk HM.out;(have hxd:Ext w1 (w1).drew:=by(exact Ext.xt));refine zr (fun w'=>w'.cell? ⟨i,4,none⟩=some (.pointer none)/\w'.cell? ⟨i,5,none⟩=some (.pointer (some ⟨m,0,none⟩))/\w'.cell? ⟨m,4,none⟩=(w1).cell? ⟨m,4,none⟩/\w'.frozen? ⟨m,4,none⟩=false) [10] (by kernel_rfl) ⟨Ext.cellS hxd k4,Ext.cellS hxd k5,rfl,km⟩ (fun hS=>?_);(refine za 0 rfl ?_;(try simp only[Act.put,tq0,tq1,tq2,tq3,tq4,tq5]));(refine za 1 rfl ?_;(try simp only[Act.put,tq0,tq1,tq2,tq3,tq4,tq5]));(refine za 2 rfl ?_;(try simp only[Act.put,tq0,tq1,tq2,tq3,tq4,tq5]));(refine za 3 rfl ?_;(try simp only[Act.put,tq0,tq1,tq2,tq3,tq4,tq5]));(refine za 4 rfl ?_;(try simp only[Act.put,tq0,tq1,tq2,tq3,tq4,tq5]));(refine za 5 rfl ?_;(try simp only[Act.put,tq0,tq1,tq2,tq3,tq4,tq5]));(refine za 6 rfl ?_;(try simp only[Act.put,tq0,tq1,tq2,tq3,tq4,tq5]));(refine za 7 rfl ?_;(try simp only[Act.put,tq0,tq1,tq2,tq3,tq4,tq5]));(refine za 8 rfl ?_;(try simp only[Act.put,tq0,tq1,tq2,tq3,tq4,tq5]));(refine za 9 rfl ?_;(try simp only[Act.put,tq0,tq1,tq2,tq3,tq4,tq5]));refine ze (rs:=[10]) (by kernel_rfl) (by decide) (AllT.consF rfl rfl (fun K hK=>?_) AllT.nil);go_simp;(refine hK.out _ _ ?_;clear hK K);refine zn (by kernel_rfl) (NoPanic.normal ?_) _
   obtain⟨hc2,hl2,hs2⟩:=HC1.out.reg HI.out HM.out HL1.out 4 _ (.inl ⟨rfl,rfl⟩);generalize (w1.setCell ⟨m,4,none⟩ (.pointer none)).drew=w2 at hc2 hs2 hl2 ⊢;have HC2:=hid hc2;have HS2:=hid hs2;obtain⟨c4,c5,f4,f5,-,-⟩:=hl2;clear hc2 hs2 k4 k5 um km;go_wp2_with fail;go_end0;obtain⟨q1,q2⟩:=FIN.out _ HC2.out (HS1.out.trans HS2.out);exact⟨rfl,q1,q2⟩
 ·have HJ:=hid hj;clear hj;go_enter Tryz.func168,Tryz.ntmps168;go_wp2_with fail;have k4:=HLK.out.c4;have k5:=HLK.out.c5;clear c4 c5 f4 f5 d2 d3 g2 g3;obtain⟨_,_,-,uj,-,kj,-,-⟩:=H.out.lk HJ.out;(have hxd:Ext w (w).drew:=by(exact Ext.xt));refine zr (fun w'=>w'.cell? ⟨i,4,none⟩=some (.pointer (some ⟨j,0,none⟩))/\w'.cell? ⟨i,5,none⟩=some (.pointer pn)/\w'.cell? ⟨j,5,none⟩=(w).cell? ⟨j,5,none⟩/\w'.frozen? ⟨j,5,none⟩=false) [10] (by kernel_rfl) ⟨Ext.cellS hxd k4,Ext.cellS hxd k5,rfl,kj⟩ (fun hS=>?_);(refine za 0 rfl ?_;(try simp only[Act.put,tq0,tq1,tq2,tq3,tq4,tq5]));(refine za 1 rfl ?_;(try simp only[Act.put,tq0,tq1,tq2,tq3,tq4,tq5]));(refine za 2 rfl ?_;(try simp only[Act.put,tq0,tq1,tq2,tq3,tq4,tq5]));(refine za 3 rfl ?_;(try simp only[Act.put,tq0,tq1,tq2,tq3,tq4,tq5]));(refine za 4 rfl ?_;(try simp only[Act.put,tq0,tq1,tq2,tq3,tq4,tq5]));(refine za 5 rfl ?_;(try simp only[Act.put,tq0,tq1,tq2,tq3,tq4,tq5]));(refine za 6 rfl ?_;(try simp only[Act.put,tq0,tq1,tq2,tq3,tq4,tq5]));(refine za 7 rfl ?_;(try simp only[Act.put,tq0,tq1,tq2,tq3,tq4,tq5]));(refine za 8 rfl ?_;(try simp only[Act.put,tq0,tq1,tq2,tq3,tq4,tq5]));(refine za 9 rfl ?_;(try simp only[Act.put,tq0,tq1,tq2,tq3,tq4,tq5]));refine ze (rs:=[10]) (by kernel_rfl) (by decide) (AllT.consF rfl rfl (fun K hK=>?_) AllT.nil);go_simp;(refine hK.out _ _ ?_;clear hK K);refine zn (by kernel_rfl) (NoPanic.normal ?_) _
  obtain⟨hc1,hl1,hs1⟩:=H.out.reg HI.out HJ.out HLK.out 5 _ (.inr ⟨rfl,rfl⟩);generalize (w.setCell ⟨j,5,none⟩ (.pointer pn)).drew=w1 at hc1 hs1 hl1 ⊢;have HC1:=hid hc1;have HS1:=hid hs1;have HL1:=hid hl1;obtain⟨c4,c5,f4,f5,-,-⟩:=hl1;obtain⟨pa,pb,hd⟩:=HC1.out.hd;obtain⟨-,-,d2,d3,g2,g3,-,-⟩:=hd;clear hc1 hs1 k4 k5 uj kj;rcases ln with rfl|⟨m,km,rfl,hm⟩
  ·go_wp2_with fail;go_end0;obtain⟨q1,q2⟩:=FIN.out _ (HC1.out.setHd (ItP.it HJ.out) 3 (.inr rfl)) (HS1.out.trans (CaStep.set HC1.out.rh _));exact⟨rfl,q1,q2⟩
  ·have HM:=hid hm;clear hm;go_wp2_with fail;have k4:=c4;have k5:=c5;clear c4 c5 f4 f5 d2 d3 g2 g3;obtain⟨_,_,um,-,km,-,-,-⟩:=HC1.out.lk HM.out;(have hxd:Ext w1 (w1).drew:=by(exact Ext.xt));refine zr (fun w'=>w'.cell? ⟨i,4,none⟩=some (.pointer (some ⟨j,0,none⟩))/\w'.cell? ⟨i,5,none⟩=some (.pointer (some ⟨m,0,none⟩))/\w'.cell? ⟨m,4,none⟩=(w1).cell? ⟨m,4,none⟩/\w'.frozen? ⟨m,4,none⟩=false) [10] (by kernel_rfl) ⟨Ext.cellS hxd k4,Ext.cellS hxd k5,rfl,km⟩ (fun hS=>?_);(refine za 0 rfl ?_;(try simp only[Act.put,tq0,tq1,tq2,tq3,tq4,tq5]));(refine za 1 rfl ?_;(try simp only[Act.put,tq0,tq1,tq2,tq3,tq4,tq5]));(refine za 2 rfl ?_;(try simp only[Act.put,tq0,tq1,tq2,tq3,tq4,tq5]));(refine za 3 rfl ?_;(try simp only[Act.put,tq0,tq1,tq2,tq3,tq4,tq5]));(refine za 4 rfl ?_;(try simp only[Act.put,tq0,tq1,tq2,tq3,tq4,tq5]));(refine za 5 rfl ?_;(try simp only[Act.put,tq0,tq1,tq2,tq3,tq4,tq5]));(refine za 6 rfl ?_;(try simp only[Act.put,tq0,tq1,tq2,tq3,tq4,tq5]));(refine za 7 rfl ?_;(try simp only[Act.put,tq0,tq1,tq2,tq3,tq4,tq5]));(refine za 8 rfl ?_;(try simp only[Act.put,tq0,tq1,tq2,tq3,tq4,tq5]));(refine za 9 rfl ?_;(try simp only[Act.put,tq0,tq1,tq2,tq3,tq4,tq5]));refine ze (rs:=[10]) (by kernel_rfl) (by decide) (AllT.consF rfl rfl (fun K hK=>?_) AllT.nil);go_simp;(refine hK.out _ _ ?_;clear hK K);refine zn (by kernel_rfl) (NoPanic.normal ?_) _
   obtain⟨hc2,hl2,hs2⟩:=HC1.out.reg HI.out HM.out HL1.out 4 _ (.inl ⟨rfl,rfl⟩);generalize (w1.setCell ⟨m,4,none⟩ (.pointer (some ⟨j,0,none⟩))).drew=w2 at hc2 hs2 hl2 ⊢;have HC2:=hid hc2;have HS2:=hid hs2;obtain⟨c4,c5,f4,f5,-,-⟩:=hl2;clear hc2 hs2 k4 k5 um km;go_wp2_with fail;go_end0;obtain⟨q1,q2⟩:=FIN.out _ HC2.out (HS1.out.trans HS2.out);exact⟨rfl,q1,q2⟩
theorem zko (w:World) (h:CaP w ι gc gm q f it vs) (i k:Nat) (hi:ι i=some (.item k)) :
  Calls Tryz.prog 169 #[.pointer (some ⟨gc,0,none⟩),.pointer (some ⟨i,0,none⟩)] w fun e w'=>e = .returned (.tuple #[])/\CaP w' ι gc gm q f it vs/\CaStep ι w w':=by
 have H:=hid h;have HI:=hid hi;obtain⟨po,pn,hl⟩:=h.lk hi;obtain⟨pa,pb,hd⟩:=h.hd;obtain⟨c4,c5,f4,f5,-,-⟩:=hl;obtain⟨-,-,d2,d3,g2,g3,-,lf⟩:=hd;have hne:=h.ne hi;have hne':gc≠i:=fun e=>hne e.symm;have h1:=h.setIt hi lf 4 (.inl rfl);have H1:=hid h1;have HS1:=hid (show CaStep ι w (w.setCell ⟨i,4,none⟩ (.pointer pb)) from CaStep.set hi _);clear h hi h1;rcases lf with rfl|⟨m,km,rfl,hm⟩
 ·go_enter Tryz.func169,Tryz.ntmps169;go_wp2_with fail;go_end0;exact⟨rfl,(H1.out.setHd (ItP.it HI.out) 2 (.inl rfl)).setHd (ItP.it HI.out) 3 (.inr rfl),(HS1.out.trans (CaStep.set H1.out.rh _)).trans (CaStep.set H1.out.rh _)⟩
 ·have HM:=hid hm;obtain⟨_,_,lm⟩:=H.out.lk hm;have u5:=lm.c5;have v5:=lm.f5;have hmg:=H.out.ne hm;have hmg':gc≠m:=fun e=>hmg e.symm;clear lm hm;by_cases hmi:m=i
  ·subst hmi;go_enter Tryz.func169,Tryz.ntmps169;go_wp2_with fail;go_end0;exact⟨rfl,(H1.out.setIt HM.out (ItP.it HI.out) 5 (.inr rfl)).setHd (ItP.it HI.out) 3 (.inr rfl),(HS1.out.trans (CaStep.set HM.out _)).trans (CaStep.set H1.out.rh _)⟩
  ·have hmi':i≠m:=fun e=>hmi e.symm;go_enter Tryz.func169,Tryz.ntmps169;go_wp2_with fail;go_end0;exact⟨rfl,(H1.out.setIt HM.out (ItP.it HI.out) 5 (.inr rfl)).setHd (ItP.it HI.out) 3 (.inr rfl),(HS1.out.trans (CaStep.set HM.out _)).trans (CaStep.set H1.out.rh _)⟩
theorem zwr (w:World):(zeroValue 196).run Tryz.prog w = .ok (.pointer none) w:=by kernel_rfl
theorem zqx {k:Nat} (hk:k<q):byM q it (16+k)=some (.pointer (some ⟨it k,0,none⟩)):=by
 unfold byM;rw[if_pos ⟨by omega,by omega⟩,show ((16:Int)+k-16).toNat=k by omega]
theorem zm5 {n:Int} (hn : ¬ (16<=n/\n<16+(q:Int))):byM q it n=none:=if_neg hn
theorem CaP.look (h:CaP w ι gc gm q f it vs) (n:Int) (hn : -9223372036854775808<=n/\n<=9223372036854775807):(Instr.lookup 195 (.map (some gm)) (.int .i64 n) false).run Tryz.prog w = .ok ((byM q it n).getD (.pointer none)) w:=
 h.map.look Tryz.underlying195 (zwr _) (x:=n) hn
theorem zku (w:World) (h:CaP w ι gc gm q f it vs) (k:Nat) (hk:k<q) :
  Calls Tryz.prog 167 #[.pointer (some ⟨gc,0,none⟩),.int .i64 (16+k),.bool true] w fun e w'=>e = .returned (.pointer (some ⟨it k,0,none⟩))/\CaP w' ι gc gm q f it vs/\CaStep ι w w':=by
 have hq:=h.few;obtain⟨pa,pb,hd⟩:=h.hd;have c1:=hd.c1;have hlk:=h.look (16+k) (by omega);rw[zqx hk,Option.getD_some]at hlk;have HI:=hid (h.ri k hk);have H:=hid h;generalize it k=i at hlk HI ⊢;clear h hd;go_enter Tryz.func167,Tryz.ntmps167;go_wp2_with fail;refine(znl w H.out i k HI.out).mono ?_;rintro e w1 ⟨rfl,h1,s1⟩;have H1:=hid h1;have S1:=hid s1;clear h1 s1;go_wp2_with fail;refine(zko w1 H1.out i k HI.out).mono ?_;rintro e w2 ⟨rfl,h2,s2⟩;have H2:=hid h2;have S2:=hid s2;clear h2 s2;go_wp2_with fail;go_ret;exact⟨rfl,H2.out,S1.out.trans S2.out⟩
theorem zit (w:World) (h:CaP w ι gc gm q f it vs) (n:Int) (hn : -9223372036854775808<=n/\n<=9223372036854775807) (hno : ¬ (16<=n/\n<16+(q:Int))) :
  Calls Tryz.prog 167 #[.pointer (some ⟨gc,0,none⟩),.int .i64 n,.bool true] w fun e w'=>e = .returned (.pointer none)/\w=w':=by
 obtain⟨pa,pb,hd⟩:=h.hd;have c1:=hd.c1;have hlk:=h.look n hn;rw[zm5 hno,Option.getD_none]at hlk;clear h hd hno;go_enter Tryz.func167,Tryz.ntmps167;go_wp2_with fail;go_ret;exact⟨rfl,rfl⟩
end
end
end Go.Proofs.YtnadlnmclameiaaGreatDoor
