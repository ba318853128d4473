/- part 14 -/
import Derived.Test.YtnadlnmclameiaaGreatDoorTS13
set_option maxRecDepth 100000
set_option maxHeartbeats 8000000
set_option linter.all false
namespace Go.Proofs.YtnadlnmclameiaaGreatDoor
section
open Go.RowKit Go.Maps
def yu (d:Dv) (last:Nat) (ws:List JW):Int × Dv:=
 if (yb 0 ws 0 d).1≠0 then yb 0 ws 0 d else if (z7 (yb 0 ws 0 d).2).1≠0 then z7 (yb 0 ws 0 d).2 else zyh (z7 (yb 0 ws 0 d).2).2 0 (yg (last+1))
def zcj (x:Int) (last:Nat):Nat:=if x=0 then last+1 else last
theorem bu (last:Nat):zcj 0 last=last+1:=if_pos rfl
theorem ze2 {x:Int} (h:x≠0) (last:Nat):zcj x last=last:=if_neg h
def LogRow (W:World) (gl g:Nat) (size:Int) (last:Nat) (dead:Bool):Prop:=W.heap[gl]? = some (.cells #[.pointer (some ⟨g,0,none⟩),.int .i64 size,.int .u64 last,.bool dead] 192 (0,0))
section
variable {W W':World}{gl g:Nat}{size:Int}{last:Nat}{dead:Bool}
theorem LogRow.c0 (h:LogRow W gl g size last dead):W.cell? ⟨gl,0,none⟩=some (.pointer (some ⟨g,0,none⟩)):=(cr 0 h)
theorem LogRow.c1 (h:LogRow W gl g size last dead):W.cell? ⟨gl,1,none⟩=some (.int .i64 size):=(cr 1 h)
theorem LogRow.c2 (h:LogRow W gl g size last dead):W.cell? ⟨gl,2,none⟩=some (.int .u64 last):=(cr 2 h)
theorem LogRow.c3 (h:LogRow W gl g size last dead):W.cell? ⟨gl,3,none⟩=some (.bool dead):=(cr 3 h)
theorem LogRow.keep {S:Nat->Prop} (h:LogRow W gl g size last dead) (hk:Keep S W W') (hs:S gl):LogRow W' gl g size last dead:=(hk.block gl hs (blt h)).trans h
theorem LogRow.lt (h:LogRow W gl g size last dead):gl<W.heap.size:=(blt h)
theorem LogRow.ext (h:LogRow W gl g size last dead) (hx:Ext W W'):LogRow W' gl g size last dead:=yy hx h
end
theorem Mine.log {w W:World}{g:Nat}{ρ:Nat->Option DRol}{N:Nat}{d:Dv} (hm:Mine w W g ρ N d) {gl:Nat} (hg:w.heap.size<=gl) (hr:ρ gl=none) (o:Nat) (u:Value):Mine w (W.setCell ⟨gl,o,none⟩ u) g ρ N d:=by
 refine⟨hm.dv.keep ((Keep.refl _ _).setCell (by simp[hr]) _),hm.nw,hm.ex.setCell hg _⟩
theorem zgl (W:World) (gl:Nat) (frm:Int) (va:Option Addr) (vn vc:Nat) :
  Calls Tryz.prog 128 #[.pointer (some ⟨gl,0,none⟩),.int .i64 frm,.slice va vn vc] W fun e W'=>∃ bw bf bl,e = .returned (.func (.func 160) #[] #[.pointer (some ⟨bw,0,none⟩),.pointer (some ⟨bf,0,none⟩),.pointer (some ⟨bl,0,none⟩)])/\
   W.heap.size<=bw/\W.heap.size<=bf/\W.heap.size<=bl/\W'.cell? ⟨bw,0,none⟩=some (.slice va vn vc)/\W'.cell? ⟨bf,0,none⟩=some (.int .i64 frm)/\W'.cell? ⟨bl,0,none⟩=some (.pointer (some ⟨gl,0,none⟩))/\Ext W W':=by
 go_enter Tryz.func128,Tryz.ntmps128;go_wp2_with fail;go_ret;have x1:Ext W (W.alloc (.cells #[.pointer (some ⟨gl,0,none⟩)] 138)):=(Ext.refl _).alloc _;obtain⟨w1,hw1⟩ : ∃ w1,w1=W.alloc (.cells #[.pointer (some ⟨gl,0,none⟩)] 138):=⟨_,rfl⟩
 have r1:w1.heap[W.heap.size]? = some (.cells #[.pointer (some ⟨gl,0,none⟩)] 138 (0,0)):=by rw[hw1];exact heap_alloc_new _ _
 have s1:w1.heap.size=W.heap.size+1:=by rw[hw1];simp
 rw[<-hw1]at x1 ⊢;obtain⟨w2,hw2⟩ : ∃ w2,w2=w1.alloc (.cells #[.int .i64 frm] 3):=⟨_,rfl⟩
 have x2:Ext w1 w2:=by rw[hw2];exact(Ext.refl _).alloc _
 have r2:w2.heap[w1.heap.size]? = some (.cells #[.int .i64 frm] 3 (0,0)):=by rw[hw2];exact heap_alloc_new _ _
 have s2:w2.heap.size=W.heap.size+1+1:=by rw[hw2];simp[s1]
 rw[<-hw2];obtain⟨w3,hw3⟩ : ∃ w3,w3=w2.alloc (.cells #[.slice va vn vc] 164):=⟨_,rfl⟩
 have x3:Ext w2 w3:=by rw[hw3];exact(Ext.refl _).alloc _
 have r3:w3.heap[w2.heap.size]? = some (.cells #[.slice va vn vc] 164 (0,0)):=by rw[hw3];exact heap_alloc_new _ _
 rw[<-hw3];rw[s1]at r2;rw[s2]at r3;refine⟨_,_,_,rfl,by omega,by omega,by omega,(cr 0 r3),Ext.cellS x3 ((cr 0 r2)),Ext.cellS (x2.trans x3) ((cr 0 r1)),(x1.trans x2).trans x3⟩
theorem zor {w W:World}{g:Nat}{ρ:Nat->Option DRol}{N:Nat}{d:Dv} (hm:Mine w W g ρ N d) (hN:N<=999990000) (bl gl:Nat) (size:Int) (last:Nat) (hl:last<=1000000000) (dead:Bool) (cl:W.cell? ⟨bl,0,none⟩=some (.pointer (some ⟨gl,0,none⟩))) (hlog:LogRow W gl g size last dead)
  (hcn:yd d 0=0->0<=newC (zo d 0)/\newC (zo d 0)<=999999999) :
  Calls Tryz.prog 152 #[.pointer (some ⟨bl,0,none⟩)] W fun e W'=>e = .returned (.int .i64 (zyh d 0 (yg (last+1))).1)/\(∃ ρ',Mine w W' g ρ' (N+5) (zyh d 0 (yg (last+1))).2/\RolNew ρ ρ' W)/\Keep (fun k=>ρ k=none) W W':=by
 have c0:=hlog.c0;have c2:=hlog.c2;have HM:=hid hm;have HCN:=hid hcn;have hw:IntKind.u64.wrap ((last:Int)+1)=(last:Int)+1:=by
  unfold IntKind.wrap;simp[IntKind.min,IntKind.max,IntKind.bits,IntKind.signed];omega
 clear hm hlog hcn;go_enter Tryz.func152,Tryz.ntmps152;go_wp2_with fail;have hxd:Ext W W.drew:=by(exact Ext.xt)
 refine zr (fun w'=>w'.cell? ⟨bl,0,none⟩=some (.pointer (some ⟨gl,0,none⟩))/\w'.cell? ⟨gl,0,none⟩=some (.pointer (some ⟨g,0,none⟩))/\w'.cell? ⟨gl,2,none⟩=some (.int .u64 last)) [10,11] (by kernel_rfl) ⟨Ext.cellS hxd cl,Ext.cellS hxd c0,Ext.cellS hxd c2⟩ (fun hS=>?_);(refine za 0 rfl ?_;(try simp only[Act.put,tq0,tq1,tq2,tq3,tq4,tq5]));(refine za 1 rfl ?_;(try simp only[Act.put,tq0,tq1,tq2,tq3,tq4,tq5]));(refine za 2 rfl ?_;(try simp only[Act.put,tq0,tq1,tq2,tq3,tq4,tq5]));(refine za 3 rfl ?_;(try simp only[Act.put,tq0,tq1,tq2,tq3,tq4,tq5]));(refine za 4 rfl ?_;(try simp only[Act.put,tq0,tq1,tq2,tq3,tq4,tq5]));(refine za 5 rfl ?_;(try simp only[Act.put,tq0,tq1,tq2,tq3,tq4,tq5]));(refine za 6 rfl ?_;(try simp only[Act.put,tq0,tq1,tq2,tq3,tq4,tq5]));(refine za 7 rfl ?_;(try simp only[Act.put,tq0,tq1,tq2,tq3,tq4,tq5]));(refine za 8 rfl ?_;(try simp only[Act.put,tq0,tq1,tq2,tq3,tq4,tq5]));refine ze (rs:=[9]) (by kernel_rfl) (by decide) (AllT.consS rfl (fun K hK=>?_) AllT.nil);go_simp;go_at_call 125;have hdn:=zkx W.drew (last+1) (by omega);rw[show ((last+1:Nat):Int)=(last:Int)+1 by omega]at hdn;refine hdn.mono ?_;rintro e w1 ⟨v1,rfl,ho1,hb1⟩;have hx1:Ext W w1:=hxd.trans hb1;have HO1:=hid (zk ho1);have HB1:=hid (fun k (hk:v1.ownBlock=some k)=>HM.out.late hx1 (Nat.le_trans hxd.size (World.ownsRow.lt ho1 k hk).1));have HX1:=hid hx1;clear hdn ho1 hb1 hS;(refine hK.out _ _ (⟨Ext.cellS hx1 cl,Ext.cellS hx1 c0,Ext.cellS hx1 c2⟩) (fun hS=>?_);clear hK K);clear hx1;refine ze (rs:=[10]) (by kernel_rfl) (by decide) (AllT.consF rfl rfl (fun K hK=>?_) AllT.nil);go_simp;go_at_call 153;refine(zra w1 g ρ N d (HM.out.dv.ext HX1.out) (by omega) 0 (by omega) v1 (yg (last+1)) HO1.out (fun _=>HB1.out) HCN.out).mono ?_;rintro e w2 ⟨rfl,ρ2,hd2,hk2,hr2⟩;have HM2:=hid ((HM.out.ext HX1.out).wr hd2 hk2 hr2);have HK2:=hid ((HX1.out.keep _).trans hk2);have HR2:=hid (show RolNew ρ ρ2 W from fun k hk=>(hr2 k hk).imp id (fun h=>Nat.le_trans HX1.out.size h));clear hd2 hk2 hr2;(refine hK.out _ _ ?_;clear hK K);refine ze (rs:=[11]) (by kernel_rfl) (by decide) (AllT.consF rfl rfl (fun K hK=>?_) AllT.nil);go_simp;(refine hK.out _ _ ?_;clear hK K);refine zn (by kernel_rfl) (NoPanic.normal ?_) _;go_wp2_with fail;go_ret;exact⟨rfl,⟨ρ2,HM2.out,HR2.out⟩,HK2.out⟩
theorem zi3 {w W:World}{g:Nat}{ρ:Nat->Option DRol}{N:Nat}{d:Dv} (hm:Mine w W g ρ N d) (hN:N<=999800000) (gl:Nat) (size:Int) (last:Nat) (hl:last<=100000000) (dead:Bool) (hlog:LogRow W gl g size last dead) (hgl:w.heap.size<=gl) (hrl:ρ gl=none)
  (S:Nat->Prop) (v:Value) (ws:List JW) (hv:RdS rWr W S v ws) (hS : ∀ k,S k->ρ k=none/\k≠gl/\k<W.heap.size) (hok:WsOk ws)
  (hcn:(yb 0 ws 0 d).1=0->(z7 (yb 0 ws 0 d).2).1=0->yd (z7 (yb 0 ws 0 d).2).2 0=0->0<=newC (zo (z7 (yb 0 ws 0 d).2).2 0)/\newC (zo (z7 (yb 0 ws 0 d).2).2 0)<=999999999) :
  Calls Tryz.prog 106 #[.pointer (some ⟨gl,0,none⟩),v] W fun e W'=>e = .returned (.int .i64 (yu d last ws).1)/\∃ ρ',Mine w W' g ρ' (N+200) (yu d last ws).2/\RolNew ρ ρ' W/\
   LogRow W' gl g size (zcj (yu d last ws).1 last) dead/\Keep (fun k=>ρ k=none/\k≠gl) W W':=by
 obtain⟨va,vc,rfl,-⟩:=hv.slice;have HM:=hid hm;have HL:=hid hlog;have HV:=hid hv;have HS:=hid hS;have HOK:=hid hok;have HCN:=hid hcn;have HRL:=hid hrl;have hglt:=hlog.lt;clear hm hlog hv hS hok hcn hrl;go_enter Tryz.func106,Tryz.ntmps106;go_wp2_with fail;obtain⟨w1,hw1⟩ : ∃ w1,w1=W.alloc (.cells #[.pointer (some ⟨gl,0,none⟩)] 138):=⟨_,rfl⟩
 have x1:Ext W w1:=by rw[hw1];exact(Ext.refl _).alloc _
 have r1:w1.heap[W.heap.size]? = some (.cells #[.pointer (some ⟨gl,0,none⟩)] 138 (0,0)):=by rw[hw1];exact heap_alloc_new _ _
 have k1:w1.cell? ⟨W.heap.size,0,none⟩=some (.pointer (some ⟨gl,0,none⟩)):=(cr 0 r1)
 have k2:=(HL.out.ext x1).c0;rw[<-hw1];clear hw1 r1;obtain⟨b,hb⟩ : ∃ b,b=W.heap.size:=⟨_,rfl⟩
 rw[<-hb]at k1 ⊢;have hbb:ρ b=none:=by rw[hb];exact HM.out.late x1 (Nat.le_refl _)
 have hbl:b<w1.heap.size:=x8 k1;have HBB:=hid hbb;have HBE:=hid hb;clear hb hbb;have hxd:Ext w1 w1.drew:=by(exact Ext.xt)
 refine zr (fun w'=>w'.cell? ⟨b,0,none⟩=some (.pointer (some ⟨gl,0,none⟩))/\w'.cell? ⟨gl,0,none⟩=some (.pointer (some ⟨g,0,none⟩))) [10,11] (by kernel_rfl) ⟨Ext.cellS hxd k1,Ext.cellS hxd k2⟩ (fun hS=>?_);(refine za 0 rfl ?_;(try simp only[Act.put,tq0,tq1,tq2,tq3,tq4,tq5]));(refine za 1 rfl ?_;(try simp only[Act.put,tq0,tq1,tq2,tq3,tq4,tq5]));(refine za 3 rfl ?_;(try simp only[Act.put,tq0,tq1,tq2,tq3,tq4,tq5]));(refine za 4 rfl ?_;(try simp only[Act.put,tq0,tq1,tq2,tq3,tq4,tq5]));(refine za 5 rfl ?_;(try simp only[Act.put,tq0,tq1,tq2,tq3,tq4,tq5]));(refine za 6 rfl ?_;(try simp only[Act.put,tq0,tq1,tq2,tq3,tq4,tq5]));(refine za 7 rfl ?_;(try simp only[Act.put,tq0,tq1,tq2,tq3,tq4,tq5]));(refine za 8 rfl ?_;(try simp only[Act.put,tq0,tq1,tq2,tq3,tq4,tq5]));refine ze (rs:=[2]) (by kernel_rfl) (by decide) (AllT.consS rfl (fun K hK=>?_) AllT.nil);go_simp;go_at_call 128;refine(zgl w1.drew gl 0 va ws.length vc).mono ?_;rintro e w2 ⟨bw,bf,bl,rfl,l1,l2,l3,e1,e2,e3,hx2⟩;have hx12:Ext w1 w2:=hxd.trans hx2;(refine hK.out _ _ (⟨Ext.cellS hx12 k1,Ext.cellS hx12 k2⟩) (fun hS=>?_);clear hK K);refine ze (rs:=[9]) (by kernel_rfl) (by decide) (AllT.consS rfl (fun K hK=>?_) AllT.nil);go_simp;obtain⟨w3,hw3⟩ : ∃ w3,w3=w2.alloc (.cells #[.func (.func 160) #[] #[.pointer (some ⟨bw,0,none⟩),.pointer (some ⟨bf,0,none⟩),.pointer (some ⟨bl,0,none⟩)],.func (.func 123) #[.pointer (some ⟨g,0,none⟩)] #[],.func (.func 152) #[] #[.pointer (some ⟨b,0,none⟩)]] 66):=⟨_,rfl⟩
 rw[<-hw3];have hx3:Ext w2 w3:=by rw[hw3];exact(Ext.refl _).alloc _
 have hx13:Ext w1 w3:=hx12.trans hx3;have hxW3:Ext W w3:=x1.trans hx13;obtain⟨fvs,hfvs⟩ : ∃ fvs:List Value,fvs=[.func (.func 160) #[] #[.pointer (some ⟨bw,0,none⟩),.pointer (some ⟨bf,0,none⟩),.pointer (some ⟨bl,0,none⟩)],.func (.func 123) #[.pointer (some ⟨g,0,none⟩)] #[],.func (.func 152) #[] #[.pointer (some ⟨b,0,none⟩)]]:=⟨_,rfl⟩
 have hr3:w3.heap[w2.heap.size]? = some (.cells fvs.toArray 66 (0,0)):=by rw[hw3,hfvs];exact heap_alloc_new _ _
 have hflen:fvs.length=3:=by rw[hfvs];rfl
 have q1:=hx3.cellS e1;have q2:=hx3.cellS e2;have q3:=hx3.cellS e3;have q4:=Ext.cellS hx13 k1;have hlog3:=HL.out.ext hxW3;have zz:W.heap.size<=w1.drew.heap.size:=x1.size;have z2:=hx2.size;have hnew : ∀ k,W.heap.size<=k->ρ k=none:=fun k hk=>HM.out.late x1 hk;have Q1:=hid q1;have Q2:=hid q2;have Q3:=hid q3;have Q4:=hid q4;have HL3:=hid hlog3;have HR3:=hid hr3;have HFV:=hid hfvs;have HM3:=hid (HM.out.ext hxW3);have HXW3:=hid hxW3;have RW:=hid (hnew bw (by omega));have RF:=hid (hnew bf (by omega));have RLB:=hid (hnew bl (by omega));have RG2:=hid (hnew w2.heap.size (by omega));have HST:=hid (show Calls Tryz.prog 127 #[.slice (some ⟨w2.heap.size,0,none⟩) 3 3] w3 fun e W'=>∃ x:Int,e = .returned (.int .i64 x)/\x=(yu d last ws).1/\∃ ρ',Mine w W' g ρ' (N+200) (yu d last ws).2/\RolNew ρ ρ' w3/\Keep (fun k=>ρ k=none) w3 W' by
  have hcodes : ∀ X1 X2 X3:Int × Dv,X1=yb 0 ws 0 d->X2=z7 X1.2->X3=zyh X2.2 0 (yg (last+1))->
    (X1.1≠0->yu d last ws=X1)/\(X1.1=0->X2.1≠0->yu d last ws=X2)/\(X1.1=0->X2.1=0->yu d last ws=X3):=by
   rintro X1 X2 X3 rfl rfl rfl;unfold yu;exact⟨fun h=>if_pos h,fun h1 h2=>by rw[if_neg (by simpa using h1),if_pos h2],fun h1 h2=>by rw[if_neg (by simpa using h1),if_neg (by simpa using h2)]⟩
  obtain⟨X1,hX1⟩ : ∃ X1,X1=yb 0 ws 0 d:=⟨_,rfl⟩
  obtain⟨X2,hX2⟩ : ∃ X2,X2=z7 X1.2:=⟨_,rfl⟩
  obtain⟨X3,hX3⟩ : ∃ X3,X3=zyh X2.2 0 (yg (last+1)):=⟨_,rfl⟩
  obtain⟨hc1,hc2,hc3⟩:=hcodes X1 X2 X3 hX1 hX2 hX3;obtain⟨dvs,v0,v1,v2,v3⟩ : ∃ f:Nat->Dv,f 0=d/\f 1=X1.2/\f 2=X2.2/\f 3=X3.2:=⟨fun i=>match i with|0=>d|1=>X1.2|2=>X2.2|_=>X3.2,rfl,rfl,rfl,rfl⟩
  have hst:=zh5 w3 w2.heap.size fvs (by omega)
   (fun i W'=>(∃ ρ',Mine w W' g ρ' (N+50*i) (dvs i)/\RolNew ρ ρ' w3)/\Keep (fun k=>ρ k=none) w3 W'/\(1<=i->X1.1=0)/\(2<=i->X2.1=0)/\(3<=i->X3.1=0))
   (fun x W'=>x=(yu d last ws).1/\∃ ρ',Mine w W' g ρ' (N+200) (yu d last ws).2/\RolNew ρ ρ' w3/\Keep (fun k=>ρ k=none) w3 W')
   (fun i W' hI=>(hI.2.1.block _ RG2.out (blt HR3.out)).trans HR3.out)
   (fun i W' hi hI=>?_)
   ⟨⟨ρ,by rw[v0];exact HM3.out.mono (by omega),RolNew.refl _ _⟩,Keep.refl _ _,fun h=>absurd h (by omega),fun h=>absurd h (by omega),fun h=>absurd h (by omega)⟩
  ·rw[hflen]at hst;refine hst.mono ?_;rintro e W' (⟨rfl,⟨ρ',h1,h2⟩,h3,h4,h5,h6⟩|⟨x,hx,rfl,h1,h2⟩)
   ·have e3:=hc3 (h4 (by omega)) (h5 (by omega));rw[e3];rw[v3]at h1;exact⟨0,rfl,(h6 (by omega)).symm,ρ',h1.mono (by omega),h2,h3⟩
   ·exact⟨x,rfl,h1,h2⟩
  ·obtain⟨⟨ρ',h1,h2⟩,h3,h4,h5,h6⟩:=hI;have hi3:i=0\/i=1\/i=2:=by omega
   have pv : ∀ (ρ2:Nat->Option DRol) (W2:World),RolNew ρ' ρ2 W'->Keep (fun k=>ρ' k=none) W' W2->RolNew ρ ρ2 w3/\Keep (fun k=>ρ k=none) w3 W2:=fun ρ2 W2 a b=>by
    obtain⟨c,e⟩:=zj3 h3 h2 b a;exact⟨e,c⟩
   have old : ∀ k,ρ k=none->k<w3.heap.size->ρ' k=none:=fun k a b=>ky h2 a b;rcases hi3 with rfl|rfl|rfl
   ·rw[v0]at h1;left;refine⟨_,_,_,by simp only[hfvs];rfl,?_⟩;have cb:=yk h3 Q1.out RW.out;have cf:=yk h3 Q2.out RF.out;have cl:=yk h3 Q3.out RLB.out;refine(zft h1 (by omega) bw bf bl gl 0 (by omega) S _ ws cb cf cl ((HL3.out.keep h3 HRL.out).c0) (old _ RW.out (x8 Q1.out)) (old _ RF.out (x8 Q2.out)) (old _ RLB.out (x8 Q3.out)) (old _ HRL.out HL3.out.lt) ((HV.out.ext HXW3.out).kept (h3.mono fun k hk _=>(HS.out k hk).1)) (fun k hk=>old k (HS.out k hk).1 (Nat.lt_of_lt_of_le (HS.out k hk).2.2 HXW3.out.size)) HOK.out).mono ?_;rintro e W2 ⟨rfl,⟨ρ2,a1,a2⟩,a3⟩;obtain⟨b1,b2⟩:=pv ρ2 W2 a2 a3;(try dsimp only at a1);(try dsimp only);rw[<-hX1]at a1 ⊢;refine⟨_,rfl,fun h0=>⟨⟨ρ2,by rw[v1];exact a1.mono (by omega),b1⟩,b2,fun _=>h0,fun h=>absurd h (by omega),fun h=>absurd h (by omega)⟩,fun h0=>?_⟩;rw[hc1 h0];exact⟨rfl,ρ2,a1.mono (by omega),b1,b2⟩
   ·rw[v1]at h1;right;left;refine⟨_,by simp only[hfvs];rfl,?_⟩;refine(zhi h1 (by omega)).mono ?_;rintro e W2 ⟨rfl,⟨ρ2,a1,a2⟩,a3⟩;obtain⟨b1,b2⟩:=pv ρ2 W2 a2 a3;(try dsimp only at a1);(try dsimp only);rw[show z7 X1.2=X2 from hX2.symm]at a1 ⊢;refine⟨_,rfl,fun h0=>⟨⟨ρ2,by rw[v2];exact a1.mono (by omega),b1⟩,b2,fun _=>h4 (by omega),fun _=>h0,fun h=>absurd h (by omega)⟩,fun h0=>?_⟩;rw[hc2 (h4 (by omega)) h0];exact⟨rfl,ρ2,a1.mono (by omega),b1,b2⟩
   ·rw[v2]at h1;right;right;left;refine⟨_,by simp only[hfvs];rfl,?_⟩;have cl:=yk h3 Q4.out HBB.out;refine(zor h1 (by omega) b gl size last (by omega) dead cl (HL3.out.keep h3 HRL.out) (by
     (try dsimp only);rw[hX2,hX1];have e1:=h4 (by omega);have e2:=h5 (by omega);rw[hX1]at e1;rw[hX2,hX1]at e2;exact HCN.out e1 e2)).mono ?_
    rintro e W2 ⟨rfl,⟨ρ2,a1,a2⟩,a3⟩;obtain⟨b1,b2⟩:=pv ρ2 W2 a2 a3;(try dsimp only at a1);(try dsimp only);rw[show zyh X2.2 0 (yg (last+1))=X3 from hX3.symm]at a1 ⊢;refine⟨_,rfl,fun h0=>⟨⟨ρ2,by rw[v3];exact a1.mono (by omega),b1⟩,b2,fun _=>h4 (by omega),fun _=>h5 (by omega),fun _=>h0⟩,fun h0=>?_⟩;rw[hc3 (h4 (by omega)) (h5 (by omega))];exact⟨rfl,ρ2,a1.mono (by omega),b1,b2⟩)
 have q4c:=q4;clear hfvs hr3 q1 q2 q3 hlog3 e1 e2 e3 hx2 hw3 hnew k2 hx12 hS;(refine hK.out _ _ (⟨q4,HL3.out.c0⟩) (fun hS=>?_);clear hK K);refine ze (rs:=[10]) (by kernel_rfl) (by decide) (AllT.consF rfl rfl (fun K hK=>?_) AllT.nil);go_simp;go_at_call 127;refine HST.out.mono ?_;rintro e w5 ⟨x,rfl,hxe,ρ5,hm5,hr5,hk5⟩;have HM5:=hid hm5;have HR5:=hid hr5;have HK5:=hid hk5;have HXE:=hid hxe;have y1:=yk hk5 q4c HBB.out;have hlog5:=HL3.out.keep hk5 HRL.out;clear hm5 hr5 hk5 hxe HST hS;(refine hK.out _ _ ?_;clear hK K);refine ze (rs:=[11]) (by kernel_rfl) (by decide) (AllT.consF rfl rfl (fun K hK=>?_) AllT.nil);go_simp;(refine hK.out _ _ ?_;clear hK K);refine zn (by kernel_rfl) (NoPanic.normal ?_) _;have hRN:RolNew ρ ρ5 W:=fun k hk=>(HR5.out k hk).imp id (fun h=>Nat.le_trans HXW3.out.size h);have hKK:Keep (fun k=>ρ k=none/\k≠gl) W w5:=(HXW3.out.keep _).trans (HK5.out.mono fun k hk _=>hk.1);have HRN:=hid hRN;have HKK:=hid hKK;clear hRN hKK;by_cases hx0:x=0
 ·subst hx0;have z2:=hlog5.c2;have fz:=zg hlog5 2;have hw:IntKind.u64.wrap ((last:Int)+1)=(last:Int)+1:=by
   unfold IntKind.wrap;simp[IntKind.min,IntKind.max,IntKind.bits,IntKind.signed];omega
  have HLG:=hid (show LogRow (w5.setCell ⟨gl,2,none⟩ (.int .u64 ((last:Int)+1))) gl g size (last+1) dead from (zw (o:=2) hlog5 _).trans rfl);have HM6:=hid (HM5.out.log hgl (ky HR5.out HRL.out (by have:=HXW3.out.size;omega)) 2 (.int .u64 ((last:Int)+1)));clear hlog5;go_wp2_with fail;go_ret;refine⟨by rw[<-HXE.out];rfl,ρ5,HM6.out,HRN.out,?_,HKK.out.trans ((Keep.refl _ _).setCell (by simp) _)⟩;rw[<-HXE.out,bu];exact HLG.out
 ·have HLG:=hid hlog5;clear hlog5;go_wp2_with fail;go_ret;refine⟨by rw[<-HXE.out];rfl,ρ5,HM5.out,HRN.out,?_,HKK.out⟩;rw[<-HXE.out,ze2 hx0];exact HLG.out
open Go.RowKit Go.Maps
def useF (size n:Int) (len:Nat) (wr:Bool):Int:=if n<0\/size<=n then 42 else if wr=true/\len≠512 then 21 else 0
theorem zc5 {w W:World}{g:Nat}{ρ:Nat->Option DRol}{N:Nat}{d:Dv} (hm:Mine w W g ρ N d) (hup:d.down=false) (gl:Nat) (size:Int) (hsz:0<=size/\size<=1000) (last:Nat) (hlog:LogRow W gl g size last false) (n:Int) (hn : -9223372036854775808<=n/\n<=9223372036854775807) (va:Option Addr) (len vc:Nat) (wr:Bool) :
  Calls Tryz.prog 107 #[.pointer (some ⟨gl,0,none⟩),.int .i64 n,.slice va len vc,.bool wr] W fun e W'=>e = .returned (.int .i64 (useF size n len wr))/\W=W':=by
 have c0:=hlog.c0;have c1:=hlog.c1;have c3:=hlog.c3;obtain⟨hs1,hs2⟩:=hsz;obtain⟨hn1,hn2⟩:=hn;have HM:=hid hm;have HUP:=hid hup;clear hm hlog hup;have hc:(n<0)\/(¬ n<0/\size<=n)\/(¬ n<0/\¬ size<=n/\wr=true/\¬ len=512)\/(¬ n<0/\¬ size<=n/\wr=true/\len=512)\/(¬ n<0/\¬ size<=n/\wr=false):=by
  cases wr <;> simp <;> omega
 have hU : ∀ x,useF size n len wr=x->Hid (useF size n len wr=x):=fun x h=>hid h;rcases hc with h1|⟨h1,h2⟩|⟨h1,h2,rfl,h4⟩|⟨h1,h2,rfl,h4⟩|⟨h1,h2,rfl⟩
 ·have HU:=hU 42 (by unfold useF;rw[if_pos (.inl h1)]);go_enter Tryz.func107,Tryz.ntmps107;go_wp2_with fail;refine(zcl HM.out.dv).mono ?_;rintro e w5 ⟨rfl,rfl⟩;rw[HUP.out];go_wp2_with fail;go_ret;exact⟨by rw[HU.out];rfl,rfl⟩
 ·have HU:=hU 42 (by unfold useF;rw[if_pos (.inr h2)]);go_enter Tryz.func107,Tryz.ntmps107;go_wp2_with fail;refine(zcl HM.out.dv).mono ?_;rintro e w5 ⟨rfl,rfl⟩;rw[HUP.out];go_wp2_with fail;go_ret;exact⟨by rw[HU.out];rfl,rfl⟩
 ·have HU:=hU 21 (by unfold useF;rw[if_neg (by omega),if_pos ⟨rfl,h4⟩]);have h5:((len:Int) != 512)=true:=by simp;omega
  go_enter Tryz.func107,Tryz.ntmps107;go_wp2_with fail;refine(zcl HM.out.dv).mono ?_;rintro e w5 ⟨rfl,rfl⟩;rw[HUP.out];go_wp2_with fail;go_ret;exact⟨by rw[HU.out];rfl,rfl⟩
 ·have HU:=hU 0 (by unfold useF;rw[if_neg (by omega),if_neg (by simp[h4])]);subst h4;go_enter Tryz.func107,Tryz.ntmps107;go_wp2_with fail;refine(zcl HM.out.dv).mono ?_;rintro e w5 ⟨rfl,rfl⟩;rw[HUP.out];go_wp2_with fail;go_ret;exact⟨by rw[HU.out];rfl,rfl⟩
 ·have HU:=hU 0 (by unfold useF;rw[if_neg (by omega),if_neg (by simp)]);go_enter Tryz.func107,Tryz.ntmps107;go_wp2_with fail;refine(zcl HM.out.dv).mono ?_;rintro e w5 ⟨rfl,rfl⟩;rw[HUP.out];go_wp2_with fail;go_ret;exact⟨by rw[HU.out];rfl,rfl⟩
theorem zcu (W:World) (gl g:Nat) (size:Int) (last:Nat) (hlog:LogRow W gl g size last false) (x:Int) (hx:x=0\/x≠2\/x=2) :
  Calls Tryz.prog 109 #[.pointer (some ⟨gl,0,none⟩),.int .i64 x] W fun e W'=>e = .returned (.int .i64 x)/\W'=W.setCell ⟨gl,3,none⟩ (.bool (decide (x=2))):=by
 have c3:=hlog.c3;have f3:=zg hlog 3;clear hlog hx;by_cases h:x=2
 ·subst h;go_enter Tryz.func109,Tryz.ntmps109;go_wp2_with fail;go_ret;exact⟨rfl,rfl⟩
 ·have h':(x == 2)=false:=by simpa using h
  go_enter Tryz.func109,Tryz.ntmps109;go_wp2_with fail;go_ret;exact⟨rfl,by simp[h]⟩
theorem LogRow.dead {W:World}{gl g:Nat}{size:Int}{last:Nat}{dead:Bool} (h:LogRow W gl g size last dead) (b:Bool):LogRow (W.setCell ⟨gl,3,none⟩ (.bool b)) gl g size last b:=(zw (o:=3) h _).trans rfl
theorem ztx (W:World) (gl g:Nat) (size:Int) (last:Nat) (dead:Bool) (hlog:LogRow W gl g size last dead):Calls Tryz.prog 62 #[.pointer (some ⟨gl,0,none⟩)] W fun e W'=>e = .returned (.int .i64 size)/\W=W':=by
 have c1:=hlog.c1;clear hlog;go_enter Tryz.func62,Tryz.ntmps62;go_wp2_with fail;go_ret;exact⟨rfl,rfl⟩
theorem zre {w W:World}{g:Nat}{ρ:Nat->Option DRol}{N:Nat}{d:Dv} (hm:Mine w W g ρ N d) (hN:N<=999999000) (hc:Calm d) (gl:Nat) (hgl:w.heap.size<=gl) (hrl:ρ gl=none) (size:Int) (hsz:0<=size/\size<=1000) (hsd:size+20<=d.safe.length) (last:Nat) (hlog:LogRow W gl g size last false) (n:Int) (hn:0<=n/\n<size) :
  Calls Tryz.prog 63 #[.pointer (some ⟨gl,0,none⟩),.int .i64 n] W fun e W'=>
   ∃ k,e = .returned (.tuple #[.slice (some ⟨k,0,none⟩) 512 512,.int .i64 0])/\W.heap.size<=k/\W'.heap[k]? = some (.cells (bvs (curF d (20+n))).toArray 85 (0,0))/\(curF d (20+n)).length=512/\
   ∃ d',Mine w W' g ρ (N+1) d'/\Calm d'/\Same d d'/\LogRow W' gl g size last false/\Keep (fun k=>k≠g/\k≠gl) W W':=by
 have HM:=hid hm;have HC:=hid hc;have HL:=hid hlog;have HRL:=hid hrl;have hu:useF size n 0 false=0:=by unfold useF;rw[if_neg (by omega),if_neg (by simp)]
 have hw:IntKind.i64.wrap (20+n)=20+n:=by rw[IntKind.wrap_i64];omega
 have c0:=hlog.c0;have hgg:gl≠g:=fun e=>by
  obtain⟨⟨_,_,_,h⟩,_,_⟩:=hm;rw[e,h.rg]at hrl;cases hrl
 have HGG:=hid hgg;clear hm hc hlog hrl hgg;go_enter Tryz.func63,Tryz.ntmps63;go_wp2_with fail;refine(zc5 HM.out HC.out.1 gl size hsz last HL.out n (by omega) none 0 0 false).mono ?_;rintro e w1 ⟨rfl,rfl⟩;rw[hu];go_wp2_with fail;refine(zxm HM.out hN HC.out (20+n) (by omega)).mono ?_;rintro e w2 ⟨k,rfl,hk,hr,hl,d',hm2,hc2,hs2,hk2⟩;have hlog2:=HL.out.keep hk2 HGG.out;have hkg:k≠gl:=fun e=>by have:=HL.out.lt;omega
 have HR:=hid hr;have HLL:=hid hl;have HM2:=hid hm2;have HC2:=hid hc2;have HS2:=hid hs2;have HK2:=hid hk2;have HL2:=hid hlog2;have HKK:=hid hk;clear hr hl hm2 hc2 hs2 hk2 hlog2 hk;go_wp2_with fail;refine(zcu w2 gl g size last HL2.out 0 (.inl rfl)).mono ?_;rintro e w3 ⟨rfl,rfl⟩;go_wp2_with fail;refine bodyPost_ret (v:=.tuple #[.slice (some ⟨k,0,none⟩) 512 512,.int .i64 0]) (by simp[results,Tryz.results63,go_sem]) rfl ?_;have hks:Keep (fun j=>j≠gl) w2 (w2.setCell ⟨gl,3,none⟩ (.bool (decide ((0:Int)=2)))):=(Keep.refl _ _).setCell (by simp) _;exact⟨k,rfl,HKK.out,(hks.block k hkg (blt HR.out)).trans HR.out,HLL.out,d',HM2.out.log hgl HRL.out 3 _,HC2.out,HS2.out,HL2.out.dead _,(HK2.out.mono fun j hj _=>hj.1).trans (hks.mono fun j hj _=>hj.2)⟩
open Go.RowKit Go.Maps
theorem zs8 {d:Dv} (h:Calm d) {n:Int} (hn:0<=n/\n<(d.safe.length:Int)-1) {data:List UInt8} (hd:data.length<=400) :
  ∃ d',ju d n data=(0,d')/\Calm d'/\qk d'/\d'.safe.length=d.safe.length/\Rec d' n 0 data/\(∀ j:Int,0<=j->j<d.safe.length->j≠n->j≠n+1->curF d' j=curF d j):=by
 obtain⟨d',e,c,l,v⟩:=zl5 h hn hd;have hno : ∀ j,(ju d n data).2.pend j=[]:=fun j=>by
  obtain⟨d1,e1,c1,l1,v1⟩:=zbk h (n:=n+1) ⟨by omega,by omega⟩ zb_len;obtain⟨d2,e2,c2,l2,v2⟩:=zd1 c1 (by rw[l1];omega);unfold ju;rw[if_neg (by unfold yd;rw[if_neg (by omega)];simp),if_neg (by omega),e1,if_neg (by simp),e2,if_neg (by simp)];exact zw7 c2 (by rw[l2,l1];omega) 0 hd j
 rw[e]at hno;refine⟨d',e,c,hno,l,.inl ⟨?_,?_⟩,fun j h0 h1 h2 h3=>?_⟩
 ·rw[v n (by omega) (by omega),if_pos rfl];exact zms 0 (by omega) hd
 ·rw[v (n+1) (by omega) (by omega),if_neg (by omega),if_pos rfl,zw1];intro hh;cases hh
 ·rw[v j (by omega) (by omega),if_neg h2,if_neg h3]
theorem zmf {w W:World}{g:Nat}{ρ:Nat->Option DRol}{N:Nat}{d:Dv} (hm:Mine w W g ρ N d) (hN:N<=999990000) (hc:Calm d) (hz : ∀ j:Int,0<=j->j<d.safe.length->curF d j=zb) :
  Calls Tryz.prog 75 #[.pointer (some ⟨g,0,none⟩)] W fun e W'=>
   e = .returned (.int .i64 0)/\∃ ρ' d',Mine w W' g ρ' (N+2000) d'/\Calm d'/\qk d'/\d'.safe.length=d.safe.length/\Rec d' 0 0 (yg 0)/\(∀ j:Int,2<=j->j<d.safe.length->curF d' j=zb):=by
 obtain⟨L,hL⟩ : ∃ L,d.safe.length=L:=⟨_,rfl⟩
 have hsz:64<=L/\L<=512:=by obtain⟨_,_,_,h⟩:=hm.dv;rw[<-hL];exact h.size
 have HM:=hid hm;have HC:=hid hc;have HL:=hid hL;have HZ:=hid hz;have hmk:=zn9 W;clear hm hc hz hL;go_enter Tryz.func75,Tryz.ntmps75;go_wp2_with fail;obtain⟨w1,hw1⟩ : ∃ w1,w1=W.alloc (.cells (bvs zb).toArray 5):=⟨_,rfl⟩
 have x1:Ext W w1:=by rw[hw1];exact(Ext.refl _).alloc _
 have r1:w1.heap[W.heap.size]? = some (.cells (bvs zb).toArray 5 (0,0)):=by rw[hw1];exact heap_alloc_new _ _
 rw[<-hw1];have HM1:=hid (HM.out.ext x1);have HR1:=hid r1;obtain⟨b,hb⟩ : ∃ b,b=W.heap.size:=⟨_,rfl⟩
 have HRB:=hid (show ρ b=none by rw[hb];exact HM.out.late x1 (Nat.le_refl _));have HB1:=hid (show w1.heap[b]? = some (.cells (bvs zb).toArray 5 (0,0)) by rw[hb];exact r1);rw[<-hb];clear hw1 hmk x1 r1 hb;refine(zbv HM1.out.dv).mono ?_;rintro e w1' ⟨rfl,rfl⟩;rw[HL.out];go_wp2_with fail;go_loopw [12] (fun u12 wr=>∃ (i:Nat) (ρi:Nat->Option DRol) (di:Dv),u12 = .int .i64 i/\i<=L/\Mine w wr g ρi (N+2*i) di/\Calm di/\di.safe.length=L/\(∀ j:Int,0<=j->j<L->curF di j=zb)/\wr.heap[b]? = some (.cells (bvs zb).toArray 5 (0,0))/\ρi b=none) (fun u12 _=>L-(intOf u12).toNat);case atStart=>exact⟨0,ρ,d,rfl,Nat.zero_le _,HM1.out,HC.out,HL.out,fun j h0 h1=>HZ.out j h0 (by rw[HL.out];exact h1),HB1.out,HRB.out⟩
 case round=>
  obtain⟨i,ρi,di,rfl,hi,hmi,hci,hli,hzi,hbi,hrb⟩:=hrel;have HMI:=hid hmi;have HCI:=hid hci;have HLI:=hid hli;have HZI:=hid hzi;have HBI:=hid hbi;have HRI:=hid hrb;clear hmi hci hli hzi hbi hrb;by_cases hlt:i<L
  ·have i1:(i:Int)<(L:Int):=by omega
   go_wp2_with fail;refine(zwc HMI.out (by omega) HCI.out i (by rw[HLI.out];omega) _ zb (zbz HBI.out zb_len) (fun k hk=>by simp only[Value.ownBlock,Option.some.injEq]at hk;rw[<-hk];exact HRI.out) zb_len).mono ?_;rintro e w5 ⟨rfl,ρ5,d5,hm5,hc5,hw5,hk5,hr5⟩;have HEND:=hid (show ∃ (i2:Nat) (ρ2:Nat->Option DRol) (d2:Dv),Value.int .i64 ((i:Int)+1) = .int .i64 i2/\i2<=L/\Mine w w5 g ρ2 (N+2*i2) d2/\Calm d2/\d2.safe.length=L/\(∀ j:Int,0<=j->j<L->curF d2 j=zb)/\w5.heap[b]? = some (.cells (bvs zb).toArray 5 (0,0))/\ρ2 b=none from
    ⟨i+1,ρ5,d5,rfl,by omega,hm5.mono (by omega),hc5,hw5.len.trans HLI.out,fun j h0 h1=>by rw[hw5.cur];split;rfl;exact HZI.out j h0 h1,zr8 hk5 HBI.out HRI.out,ky hr5 HRI.out (blt HBI.out)⟩)
   clear hm5 hc5 hw5 hk5 hr5;go_wp2_with fail;exact⟨HEND.out,by simp only[intOf];omega⟩
  ·have hie:i=L:=by omega
   subst hie;have i1 : ¬ (i:Int)<(i:Int):=by omega
   go_wp2_with fail;refine(zwd HMI.out (by omega) HCI.out).mono ?_;rintro e w5 ⟨rfl,ρ5,d5,hm5,hc5,hf5,-,-⟩;have HM5:=hid hm5;have HC5:=hid hc5;have HF5:=hid hf5;clear hm5 hc5 hf5;go_wp2_with fail;refine(zkx w5 0 (by omega)).mono ?_;rintro e w6 ⟨v6,rfl,ho6,hb6⟩;have hx6:Ext w5 w6:=hb6;have HM6:=hid (HM5.out.ext hx6);have HR6:=hid (zk ho6);have HV6:=hid (fun k (hk:v6.ownBlock=some k)=>HM5.out.late hx6 (World.ownsRow.lt ho6 k hk).1);clear ho6 hb6 hx6;have hl5:d5.safe.length=i:=HF5.out.len.trans HLI.out;obtain⟨d7,e7,c7,s7,l7,r7,v7⟩:=zs8 HC5.out (n:=0) (by omega) (data:=yg 0) (by have:=ziw 0;omega);have HL5:=hid hl5;clear hl5;go_wp2_with fail;refine(zo4 w6 g ρ5 _ d5 HM6.out.dv (by omega) 0 (by omega) v6 (yg 0) HR6.out (fun _=>HV6.out)).mono ?_;rintro e w7 ⟨rfl,ρ7,hd7,hk7,hr7⟩;have hm7:=HM6.out.wr hd7 hk7 hr7;rw[e7]at hm7 ⊢;have HM7:=hid hm7;have HE:=hid (show Calm d7/\qk d7/\d7.safe.length=d.safe.length/\Rec d7 0 0 (yg 0)/\(∀ j:Int,2<=j->j<d.safe.length->curF d7 j=zb) from
    ⟨c7,s7,l7.trans (HL5.out.trans HL.out.symm),r7,fun j h0 h1=>by
     rw[HL.out]at h1;rw[v7 j (by omega) (by rw[HL5.out];exact h1) (by omega) (by omega),HF5.out.cur j (by omega) (by rw[HLI.out];exact h1)];exact HZI.out j (by omega) h1⟩)
   clear hm7 hd7 hk7 hr7 e7 c7 s7 l7 r7 v7;go_wp2_with fail;go_ret;exact⟨rfl,ρ7,d7,HM7.out.mono (by omega),HE.out⟩
end
end Go.Proofs.YtnadlnmclameiaaGreatDoor
