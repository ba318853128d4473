/- part 15 -/
import Derived.Test.YtnadlnmclameiaaGreatDoorTS14
set_option maxRecDepth 100000
set_option maxHeartbeats 8000000
set_option linter.all false
namespace Go.Proofs.YtnadlnmclameiaaGreatDoor
section
open Go.RowKit Go.Maps
theorem zkq:(Tryz.prog.info? 220).map (fun i=>(i.zero,i.size,i.bytes))=some (some (.agg #[.int .i64 0,.slice none 0 0]),2,32):=by kernel_rfl
theorem zo7 (w:World) (S:Nat->Prop) (hSlt : ∀ k,S k->k<w.heap.size) (v:Value) (ws:List JW) (h:RdS rWr w S v ws) (hl:ws.length<=1000) :
  Calls Tryz.prog 126 #[v] w fun e w'=>∃ v',e = .returned v'/\OwnS rWr 220 w' w.heap.size S v' ws/\Ext w w':=by
 have hnil:=fun w=>Lib.run_eql_slice_nil (P:=Tryz.prog) w;obtain⟨a,cap,rfl,hc1,hc2⟩:=h.slice;have H:=hid h;cases a with
 | none=>
  have h0:ws=[]:=by
   cases ws with
   | nil=>rfl
   | cons f fs=>obtain⟨g,o,cap',cs,e,_⟩:=h.at 0 (by simp);simp at e
  subst h0;clear h;go_enter Tryz.func126,Tryz.ntmps126;go_wp2_with fail;go_ret;exact⟨_,rfl,OwnS.nil _ _ _ _ _,Ext.refl _⟩
 | some a=>
  obtain⟨gs,hgs,hsrc,hall⟩:=(h.ext ((Ext.refl w).alloc (.cells #[] 220))).src Tryz.underlying164;have HG:=hid hgs;have hgl:gs.length=ws.length:=by rw[hgs,List.length_map]
  have HSRC:=hid hsrc;have HALL:=hid hall;have HGL:=hid hgl;have hns : ¬ S w.heap.size:=fun h=>by have:=hSlt _ h;omega
  have HA:=OwnS.made rWr 220 w S hns;have HSL:=hid hSlt;clear h hgs hsrc hall hgl hSlt hns;go_enter Tryz.func126,Tryz.ntmps126;go_wp2_with (at_builtin;go_must (refine vw rWr rfl _ _ _ _ _ (.agg #[.int .i64 0,.slice none 0 0]) 32 rfl Tryz.underlying164 zkq rfl w.heap.size S _ [] rfl HA _ gs rfl HSRC.out (fun p hp=>HALL.out p hp) (fun k h=>Nat.lt_of_lt_of_le (HSL.out k h) (by simp)) (by have:=HGL.out;simp only[List.length_nil,Nat.zero_add];omega) (by have:=HGL.out;simp only[List.length_nil,Nat.zero_add];omega) (by simp) ?_;intro v' w' k1 k2 k3;rw[List.nil_append,<-HG.out]at k1))
  go_ret;exact⟨_,rfl,k1,((Ext.refl w).alloc _).grown k2 (fun k hk=>by cases hk;exact Nat.le_refl _)⟩
theorem OwnS.setD {w:World}{base g n cap:Nat}{t:TypeId}{S:Nat->Prop}{xs:List JW} (h:OwnS rWr t w base S (.slice (some ⟨g,0,none⟩) n cap) xs) (i:Nat) (hi:i<xs.length) {u:Value} (hu:RdB w u xs[i].2) (huS:0<xs[i].2.length->∀ k,u.ownBlock=some k->S k) :
  OwnS rWr t (w.setCell ⟨g,i*2+1,none⟩ u) base S (.slice (some ⟨g,0,none⟩) n cap) xs:=by
 obtain⟨gs,rfl,h1,h2,h3⟩:=h;have hg : ¬ S g:=h2 g rfl;have hnn:n=gs.length:=by
  rcases h1.2 with⟨e,_⟩|⟨_,_,_,e,_⟩
  ·simp at e
  ·simp only[Value.slice.injEq]at e;exact e.2.1
 subst hnn;rw[List.length_map]at hi;have hlen : ∀ p∈gs,p.1.length=2:=fun p hp=>rWr.len (h3 p hp);rw[List.getElem_map]at hu huS;obtain⟨c1,c2,e,hc1,hc2⟩:=h3 _ (List.getElem_mem hi);obtain⟨hc1a,hc1b⟩:=hc1;obtain⟨u0,rfl,-,-⟩:=hc2;have hkeep : ∀ p:List Value × JW,rWr.rd w S p.1 p.2->rWr.rd (w.setCell ⟨g,i*2+1,none⟩ u) S p.1 p.2:=fun p hp=>Rdr.kept hp ((Keep.refl (fun k=>S k) w).setCell hg u);have hu':RdB (w.setCell ⟨g,i*2+1,none⟩ u) u gs[i].2.2:=Rd.carry0 hu (by simp) fun h0 k hk hl=>(((Keep.refl (fun k=>S k) w).setCell hg u).block k (huS h0 k hk) hl)
 refine⟨gs.set i ([.int .i64 gs[i].2.1,u],gs[i].2),?_,?_,h2,fun p hp=>?_⟩
 ·rw[List.map_set];apply List.ext_getElem?;intro j;rw[List.getElem?_set];by_cases hj:i=j
  ·subst hj;simp[hi]
  ·simp[hj]
 ·rw[List.length_set,zi0 gs 2 (by omega) hlen i hi _ rfl];have hset:setAll (cellsOf gs) (i*2) [.int .i64 gs[i].2.1,u]=(cellsOf gs).set (i*2+1) u:=by
   show setAll (((cellsOf gs).set (i*2) (.int .i64 gs[i].2.1)).set (i*2+1) u) (i*2+1+1) []=_;have h5:=jv gs 2 hlen i hi 0 (by omega);rw[e,hc1a]at h5;have h6:(cellsOf gs).set (i*2) (.int .i64 gs[i].2.1)=cellsOf gs:=by
    apply List.ext_getElem?;intro j;rw[List.getElem?_set];by_cases hj:i*2=j
    ·subst hj;rw[if_pos rfl];have h5':(cellsOf gs)[i*2]? = some (.int .i64 gs[i].2.1):=by simpa using h5
     rw[h5'];rw[if_pos (List.getElem?_eq_some_iff.1 h5').1]
    ·rw[if_neg hj]
   rw[h6];rfl
  rw[hset];exact(World.ownsRow.stored h1 (i*2+1) u).1
 ·rcases List.mem_or_eq_of_mem_set hp with hp|rfl
  ·exact hkeep p (h3 p hp)
  ·exact⟨[.int .i64 gs[i].2.1],[u],rfl,⟨rfl,hc1b⟩,u,rfl,hu',huS⟩
theorem zma {w W:World}{g:Nat}{ρ:Nat->Option DRol}{N:Nat}{d:Dv} (hm:Mine w W g ρ N d) (hN:N<=999990000) (b2 b3 gl:Nat) (size:Int) (last:Nat) (hl:last<=1000000000) (dead:Bool) (cl:W.cell? ⟨b2,0,none⟩=some (.pointer (some ⟨gl,0,none⟩))) (hlog:LogRow W gl g size last dead)
  (S:Nat->Prop) (va:Option Addr) (vc:Nat) (ws:List JW) (cw:W.cell? ⟨b3,0,none⟩=some (.slice va ws.length vc)) (hv:RdS rWr W S (.slice va ws.length vc) ws) (hok:WsOk ws) :
  Calls Tryz.prog 129 #[.pointer (some ⟨b2,0,none⟩),.pointer (some ⟨b3,0,none⟩)] W fun e W'=>e = .returned (.int .i64 (zy d 2 (qr (last+1) ws)).1)/\(∃ ρ',Mine w W' g ρ' (N+2) (zy d 2 (qr (last+1) ws)).2/\RolNew ρ ρ' W)/\Keep (fun k=>ρ k=none) W W':=by
 have c0:=hlog.c0;have c2:=hlog.c2;have HM:=hid hm;have HV:=hid hv;have HOK:=hid hok;have hw:IntKind.u64.wrap ((last:Int)+1)=(last:Int)+1:=by
  unfold IntKind.wrap;simp[IntKind.min,IntKind.max,IntKind.bits,IntKind.signed];omega
 have hdn:=zkt W.drew (last+1) (by omega) S _ ws (hv.ext (show Ext W W.drew by(exact Ext.xt))) hok;rw[show ((last+1:Nat):Int)=(last:Int)+1 by omega]at hdn;have hlen:=(zcs (last+1) ws hok.1).2;generalize qr (last+1) ws=HL at hdn hlen ⊢;have HDN:=hid hdn;have HLN:=hid hlen;clear hm hlog hv hok hdn hlen;go_enter Tryz.func129,Tryz.ntmps129;go_wp2_with fail;have hxd:Ext W W.drew:=by(exact Ext.xt)
 refine zr (fun w'=>w'.cell? ⟨b2,0,none⟩=some (.pointer (some ⟨gl,0,none⟩))/\w'.cell? ⟨gl,0,none⟩=some (.pointer (some ⟨g,0,none⟩))/\w'.cell? ⟨gl,2,none⟩=some (.int .u64 last)/\w'.cell? ⟨b3,0,none⟩=some (.slice va ws.length vc)) [11,12] (by kernel_rfl) ⟨Ext.cellS hxd cl,Ext.cellS hxd c0,Ext.cellS hxd c2,Ext.cellS hxd cw⟩ (fun hS=>?_);(refine za 0 rfl ?_;(try simp only[Act.put,tq0,tq1,tq2,tq3,tq4,tq5]));(refine za 1 rfl ?_;(try simp only[Act.put,tq0,tq1,tq2,tq3,tq4,tq5]));(refine za 2 rfl ?_;(try simp only[Act.put,tq0,tq1,tq2,tq3,tq4,tq5]));(refine za 3 rfl ?_;(try simp only[Act.put,tq0,tq1,tq2,tq3,tq4,tq5]));(refine za 4 rfl ?_;(try simp only[Act.put,tq0,tq1,tq2,tq3,tq4,tq5]));(refine za 5 rfl ?_;(try simp only[Act.put,tq0,tq1,tq2,tq3,tq4,tq5]));(refine za 6 rfl ?_;(try simp only[Act.put,tq0,tq1,tq2,tq3,tq4,tq5]));(refine za 7 rfl ?_;(try simp only[Act.put,tq0,tq1,tq2,tq3,tq4,tq5]));(refine za 8 rfl ?_;(try simp only[Act.put,tq0,tq1,tq2,tq3,tq4,tq5]));(refine za 9 rfl ?_;(try simp only[Act.put,tq0,tq1,tq2,tq3,tq4,tq5]));refine ze (rs:=[10]) (by kernel_rfl) (by decide) (AllT.consS rfl (fun K hK=>?_) AllT.nil);go_simp;go_at_call 130;refine HDN.out.mono ?_;rintro e w1 ⟨v1,rfl,ho1,hb1⟩;have hx1:Ext W w1:=hxd.trans hb1;have HO1:=hid (zk ho1);have HB1:=hid (fun k (hk:v1.ownBlock=some k)=>HM.out.late hx1 (Nat.le_trans hxd.size (World.ownsRow.lt ho1 k hk).1));have HX1:=hid hx1;clear ho1 hb1 hS;(refine hK.out _ _ (⟨Ext.cellS hx1 cl,Ext.cellS hx1 c0,Ext.cellS hx1 c2,Ext.cellS hx1 cw⟩) (fun hS=>?_);clear hK K);clear hx1;refine ze (rs:=[11]) (by kernel_rfl) (by decide) (AllT.consF rfl rfl (fun K hK=>?_) AllT.nil);go_simp;go_at_call 122;refine(zhh (HM.out.ext HX1.out) (by omega) 2 (by omega) v1 HL HO1.out HB1.out).mono ?_;rintro e w2 ⟨rfl,⟨ρ2,hm2,hr2⟩,hk2⟩;have HM2:=hid hm2;have HK2:=hid ((HX1.out.keep _).trans hk2);have HR2:=hid (show RolNew ρ ρ2 W from fun k hk=>(hr2 k hk).imp id (fun h=>Nat.le_trans HX1.out.size h));clear hm2 hk2 hr2;(refine hK.out _ _ ?_;clear hK K);refine ze (rs:=[12]) (by kernel_rfl) (by decide) (AllT.consF rfl rfl (fun K hK=>?_) AllT.nil);go_simp;(refine hK.out _ _ ?_;clear hK K);refine zn (by kernel_rfl) (NoPanic.normal ?_) _;go_wp2_with fail;go_ret;exact⟨rfl,⟨ρ2,HM2.out,HR2.out⟩,HK2.out⟩
open Go.RowKit Go.Maps
def com1 (d:Dv) (ws:List JW):Int × Dv:=yb 3 ws 0 d
def com2 (d:Dv) (ws:List JW):Int × Dv:=z7 (com1 d ws).2
def com3 (d:Dv) (last:Nat) (ws:List JW):Int × Dv:=zy (com2 d ws).2 2 (qr (last+1) ws)
def com4 (d:Dv) (last:Nat) (ws:List JW):Int × Dv:=z7 (com3 d last ws).2
def com5 (d:Dv) (last:Nat) (ws:List JW):Int × Dv:=yu (com4 d last ws).2 last ws
def yr (d:Dv) (last:Nat) (ws:List JW):Int × Dv:=
 if (com1 d ws).1≠0 then com1 d ws else if (com2 d ws).1≠0 then com2 d ws else if (com3 d last ws).1≠0 then com3 d last ws else if (com4 d last ws).1≠0 then com4 d last ws else com5 d last ws
def jf (d:Dv) (ws:List JW):Prop:=(yb 0 ws 0 d).1=0->(z7 (yb 0 ws 0 d).2).1=0->yd (z7 (yb 0 ws 0 d).2).2 0=0->0<=newC (zo (z7 (yb 0 ws 0 d).2).2 0)/\newC (zo (z7 (yb 0 ws 0 d).2).2 0)<=999999999
def zw8 (i last:Nat):Nat:=if i<=4 then last else last+1
theorem zqh {W W1 W2:World}{ρ ρ1 ρ2:Nat->Option DRol}{gl:Nat} (hk1:Keep (fun k=>ρ k=none/\k≠gl) W W1) (hr1:RolNew ρ ρ1 W) (hk2:Keep (fun k=>ρ1 k=none/\k≠gl) W1 W2) (hr2:RolNew ρ1 ρ2 W1):Keep (fun k=>ρ k=none/\k≠gl) W W2/\RolNew ρ ρ2 W:=by
 have z1:=hk1.size;refine⟨?_,fun k hk=>?_⟩
 ·have h2:Keep (fun k=>(ρ k=none/\k≠gl)/\k<W.heap.size) W1 W2:=hk2.mono fun k hk hl=>⟨ky hr1 hk.1.1 hk.2,hk.1.2⟩
  exact((hk1.mono fun k hk _=>hk.1).trans h2).mono fun k hk hl=>⟨hk,hl⟩
 ·rcases hr2 k hk with h|h
  ·exact hr1 k h
  ·right;omega
theorem zl9 {w W:World}{g:Nat}{ρ:Nat->Option DRol}{N:Nat}{d:Dv} (hm:Mine w W g ρ N d) (hN:N<=999800000) (b2 b3 gl:Nat) (size:Int) (last:Nat) (hl:last<=100000000) (dead:Bool) (cl:W.cell? ⟨b2,0,none⟩=some (.pointer (some ⟨gl,0,none⟩))) (hlog:LogRow W gl g size last dead) (hgl:w.heap.size<=gl) (hrl:ρ gl=none)
  (S:Nat->Prop) (v:Value) (ws:List JW) (cw:W.cell? ⟨b3,0,none⟩=some v) (hv:RdS rWr W S v ws) (hS : ∀ k,S k->ρ k=none/\k≠gl/\k<W.heap.size) (hok:WsOk ws) (hcn:jf d ws) :
  Calls Tryz.prog 131 #[.pointer (some ⟨b2,0,none⟩),.pointer (some ⟨b3,0,none⟩)] W fun e W'=>e = .returned (.int .i64 (yu d last ws).1)/\∃ ρ',Mine w W' g ρ' (N+200) (yu d last ws).2/\RolNew ρ ρ' W/\
   LogRow W' gl g size (zcj (yu d last ws).1 last) dead/\Keep (fun k=>ρ k=none/\k≠gl) W W':=by
 have H:=zi3 hm hN gl size last hl dead hlog hgl hrl S v ws hv hS hok hcn;have HH:=hid H;clear H hm hlog hv hS hok hcn;go_enter Tryz.func131,Tryz.ntmps131;go_wp2_with fail;refine HH.out.mono ?_;rintro e w2 ⟨rfl,h⟩;have h':=hid h;clear h HH;go_wp2_with fail;go_ret;exact⟨rfl,h'.out⟩
theorem zol {w W:World}{g:Nat}{ρ:Nat->Option DRol}{N:Nat}{d:Dv} (hm:Mine w W g ρ N d) (hN:N<=999700000) (gl:Nat) (size:Int) (last:Nat) (hl:last<=100000000) (hlog:LogRow W gl g size last false) (hgl:w.heap.size<=gl) (hrl:ρ gl=none)
  (S:Nat->Prop) (va:Option Addr) (vc:Nat) (ws:List JW) (hv:RdS rWr W S (.slice va ws.length vc) ws) (hS : ∀ k,S k->ρ k=none/\k≠gl/\k<W.heap.size) (hok:WsOk ws) (hcn:(com1 d ws).1=0->(com2 d ws).1=0->(com3 d last ws).1=0->(com4 d last ws).1=0->jf (com4 d last ws).2 ws)
  (gf bw bf bl b2 b3:Nat) (hnew : ∀ k,k=gf\/k=bw\/k=bf\/k=bl\/k=b2\/k=b3->ρ k=none/\k≠gl)
  (hr:W.heap[gf]? = some (.cells #[.func (.func 160) #[] #[.pointer (some ⟨bw,0,none⟩),.pointer (some ⟨bf,0,none⟩),.pointer (some ⟨bl,0,none⟩)],.func (.func 123) #[.pointer (some ⟨g,0,none⟩)] #[],.func (.func 129) #[] #[.pointer (some ⟨b2,0,none⟩),.pointer (some ⟨b3,0,none⟩)],.func (.func 123) #[.pointer (some ⟨g,0,none⟩)] #[],.func (.func 131) #[] #[.pointer (some ⟨b2,0,none⟩),.pointer (some ⟨b3,0,none⟩)]] 66 (0,0)))
  (cw:W.cell? ⟨bw,0,none⟩=some (.slice va ws.length vc)) (cf:W.cell? ⟨bf,0,none⟩=some (.int .i64 3)) (cl:W.cell? ⟨bl,0,none⟩=some (.pointer (some ⟨gl,0,none⟩))) (c2:W.cell? ⟨b2,0,none⟩=some (.pointer (some ⟨gl,0,none⟩))) (c3:W.cell? ⟨b3,0,none⟩=some (.slice va ws.length vc)) :
  Calls Tryz.prog 127 #[.slice (some ⟨gf,0,none⟩) 5 5] W fun e W'=>∃ x:Int,e = .returned (.int .i64 x)/\x=(yr d last ws).1/\∃ ρ',Mine w W' g ρ' (N+500) (yr d last ws).2/\RolNew ρ ρ' W/\Keep (fun k=>ρ k=none/\k≠gl) W W'/\LogRow W' gl g size (zcj x last) false:=by
 have hcodes : ∀ X1 X2 X3 X4 X5:Int × Dv,X1=com1 d ws->X2=com2 d ws->X3=com3 d last ws->X4=com4 d last ws->X5=com5 d last ws->
   (X1.1≠0->yr d last ws=X1)/\(X1.1=0->X2.1≠0->yr d last ws=X2)/\(X1.1=0->X2.1=0->X3.1≠0->yr d last ws=X3)/\(X1.1=0->X2.1=0->X3.1=0->X4.1≠0->yr d last ws=X4)/\(X1.1=0->X2.1=0->X3.1=0->X4.1=0->yr d last ws=X5):=by
  rintro X1 X2 X3 X4 X5 rfl rfl rfl rfl rfl;unfold yr;exact⟨fun h=>if_pos h,fun h1 h2=>by rw[if_neg (by simpa using h1),if_pos h2],fun h1 h2 h3=>by rw[if_neg (by simpa using h1),if_neg (by simpa using h2),if_pos h3],fun h1 h2 h3 h4=>by rw[if_neg (by simpa using h1),if_neg (by simpa using h2),if_neg (by simpa using h3),if_pos h4],fun h1 h2 h3 h4=>by rw[if_neg (by simpa using h1),if_neg (by simpa using h2),if_neg (by simpa using h3),if_neg (by simpa using h4)]⟩
 obtain⟨X1,hX1⟩ : ∃ X1,X1=com1 d ws:=⟨_,rfl⟩
 obtain⟨X2,hX2⟩ : ∃ X2,X2=com2 d ws:=⟨_,rfl⟩
 obtain⟨X3,hX3⟩ : ∃ X3,X3=com3 d last ws:=⟨_,rfl⟩
 obtain⟨X4,hX4⟩ : ∃ X4,X4=com4 d last ws:=⟨_,rfl⟩
 obtain⟨X5,hX5⟩ : ∃ X5,X5=com5 d last ws:=⟨_,rfl⟩
 obtain⟨hc1,hc2,hc3,hc4,hc5⟩:=hcodes X1 X2 X3 X4 X5 hX1 hX2 hX3 hX4 hX5;have q1:X1=yb 3 ws 0 d:=hX1;have q2:X2=z7 X1.2:=by rw[hX1];exact hX2
 have q3:X3=zy X2.2 2 (qr (last+1) ws):=by rw[hX2];exact hX3
 have q4:X4=z7 X3.2:=by rw[hX3];exact hX4
 have q5:X5=yu X4.2 last ws:=by rw[hX4];exact hX5
 rw[<-hX1,<-hX2,<-hX3,<-hX4]at hcn;generalize yr d last ws=C at hc1 hc2 hc3 hc4 hc5 ⊢;clear hcodes hX1 hX2 hX3 hX4 hX5;obtain⟨dvs,v0,v1,v2,v3,v4,v5⟩ : ∃ f:Nat->Dv,f 0=d/\f 1=X1.2/\f 2=X2.2/\f 3=X3.2/\f 4=X4.2/\f 5=X5.2:=⟨fun i=>match i with|0=>d|1=>X1.2|2=>X2.2|3=>X3.2|4=>X4.2|_=>X5.2,rfl,rfl,rfl,rfl,rfl,rfl⟩
 obtain⟨fvs,hfvs⟩ : ∃ fvs:List Value,fvs=[.func (.func 160) #[] #[.pointer (some ⟨bw,0,none⟩),.pointer (some ⟨bf,0,none⟩),.pointer (some ⟨bl,0,none⟩)],.func (.func 123) #[.pointer (some ⟨g,0,none⟩)] #[],.func (.func 129) #[] #[.pointer (some ⟨b2,0,none⟩),.pointer (some ⟨b3,0,none⟩)],.func (.func 123) #[.pointer (some ⟨g,0,none⟩)] #[],.func (.func 131) #[] #[.pointer (some ⟨b2,0,none⟩),.pointer (some ⟨b3,0,none⟩)]]:=⟨_,rfl⟩
 have hr':W.heap[gf]? = some (.cells fvs.toArray 66 (0,0)):=by rw[hfvs];exact hr
 have hflen:fvs.length=5:=by rw[hfvs];rfl
 have hgfl:gf<W.heap.size:=(blt hr)
 have ngf:=hnew gf (by simp);have nbw:=hnew bw (by simp);have nbf:=hnew bf (by simp);have nbl:=hnew bl (by simp);have nb2:=hnew b2 (by simp);have nb3:=hnew b3 (by simp);have hst:=zh5 W gf fvs (by omega)
  (fun i W'=>(∃ ρ',Mine w W' g ρ' (N+50*i+(if i=5 then 200 else 0)) (dvs i)/\RolNew ρ ρ' W)/\Keep (fun k=>ρ k=none/\k≠gl) W W'/\LogRow W' gl g size (zw8 i last) false/\(1<=i->X1.1=0)/\(2<=i->X2.1=0)/\(3<=i->X3.1=0)/\(4<=i->X4.1=0)/\(5<=i->X5.1=0))
  (fun x W'=>x=C.1/\∃ ρ',Mine w W' g ρ' (N+500) C.2/\RolNew ρ ρ' W/\Keep (fun k=>ρ k=none/\k≠gl) W W'/\LogRow W' gl g size last false)
  (fun i W' hI=>(hI.2.1.block _ ngf hgfl).trans hr')
  (fun i W' hi hI=>?_)
  ⟨⟨ρ,by rw[v0];exact hm.mono (by omega),RolNew.refl _ _⟩,Keep.refl _ _,hlog,fun h=>absurd h (by omega),fun h=>absurd h (by omega),fun h=>absurd h (by omega),fun h=>absurd h (by omega),fun h=>absurd h (by omega)⟩
 ·rw[hflen]at hst;refine hst.mono ?_;rintro e W' (⟨rfl,⟨ρ',h1,h2⟩,h3,hL,h4,h5,h6,h7,h8⟩|⟨x,hx,rfl,h1,ρ',h2,h3,h4,h5⟩)
  ·have e3:=hc5 (h4 (by omega)) (h5 (by omega)) (h6 (by omega)) (h7 (by omega));rw[e3];rw[v5]at h1;exact⟨0,rfl,(h8 (by omega)).symm,ρ',h1.mono (by rw[if_pos rfl];omega),h2,h3,by rw[bu];exact hL⟩
  ·exact⟨x,rfl,h1,ρ',h2,h3,h4,by rw[ze2 hx];exact h5⟩
 ·obtain⟨⟨ρ',h1,h2⟩,h3,hL,h4,h5,h6,h7,h8⟩:=hI;have hi3:i=0\/i=1\/i=2\/i=3\/i=4:=by omega
  have pv : ∀ (ρ2:Nat->Option DRol) (W2:World),RolNew ρ' ρ2 W'->Keep (fun k=>ρ' k=none/\k≠gl) W' W2->RolNew ρ ρ2 W/\Keep (fun k=>ρ k=none/\k≠gl) W W2:=fun ρ2 W2 a b=>by
   obtain⟨c,e⟩:=zqh h3 h2 b a;exact⟨e,c⟩
  have old : ∀ k,ρ k=none->k<W.heap.size->ρ' k=none:=fun k a b=>ky h2 a b;have hrl':=old gl hrl hlog.lt;have hvi:=hv.kept (h3.mono fun k hk _=>⟨(hS k hk).1,(hS k hk).2.1⟩);have hSi : ∀ k,S k->ρ' k=none/\k≠gl/\k<W'.heap.size:=fun k hk=>⟨old k (hS k hk).1 (hS k hk).2.2,(hS k hk).2.1,by have:=h3.size;have:=(hS k hk).2.2;omega⟩
  have k2:=yk h3 c2 nb2;have k3:=yk h3 c3 nb3;have kflat : ∀ {W2:World},Keep (fun k=>ρ' k=none) W' W2->Keep (fun k=>ρ' k=none/\k≠gl) W' W2:=fun h=>h.mono fun k hk _=>hk.1;rcases hi3 with rfl|rfl|rfl|rfl|rfl
  ·rw[v0]at h1;left;refine⟨_,_,_,by simp only[hfvs];rfl,?_⟩;have cb:=yk h3 cw nbw;have cf:=yk h3 cf nbf;have cl:=yk h3 cl nbl;refine(zft h1 (by simp only[Nat.reduceMul,Nat.reduceEqDiff,if_false];omega) bw bf bl gl 3 (by omega) S _ ws cb cf cl hL.c0 (old _ nbw.1 (x8 cw)) (old _ nbf.1 (x8 ‹W.cell? ⟨bf,0,none⟩=_›)) (old _ nbl.1 (x8 ‹W.cell? ⟨bl,0,none⟩=_›)) hrl' hvi (fun k hk=>(hSi k hk).1) hok).mono ?_;rintro e W2 ⟨rfl,⟨ρ2,a1,a2⟩,a3⟩;obtain⟨b1,b2⟩:=pv ρ2 W2 a2 (kflat a3);(try dsimp only at a1);(try dsimp only);rw[<-q1]at a1 ⊢;have hL2:LogRow W2 gl g size last false:=hL.keep a3 hrl';refine⟨_,rfl,fun h0=>⟨⟨ρ2,by rw[v1];exact a1.mono (by simp),b1⟩,b2,hL2,fun _=>h0,fun h=>absurd h (by omega),fun h=>absurd h (by omega),fun h=>absurd h (by omega),fun h=>absurd h (by omega)⟩,fun h0=>?_⟩;rw[hc1 h0];exact⟨rfl,ρ2,a1.mono (by simp only[Nat.reduceMul,Nat.reduceEqDiff,if_false];omega),b1,b2,hL2⟩
  ·rw[v1]at h1;right;left;refine⟨_,by simp only[hfvs];rfl,?_⟩;refine(zhi h1 (by simp only[Nat.reduceMul,Nat.reduceEqDiff,if_false];omega)).mono ?_;rintro e W2 ⟨rfl,⟨ρ2,a1,a2⟩,a3⟩;obtain⟨b1,b2⟩:=pv ρ2 W2 a2 (kflat a3);(try dsimp only at a1);(try dsimp only);rw[<-q2]at a1 ⊢;have hL2:LogRow W2 gl g size last false:=hL.keep a3 hrl';refine⟨_,rfl,fun h0=>⟨⟨ρ2,by rw[v2];exact a1.mono (by simp),b1⟩,b2,hL2,fun _=>h4 (by omega),fun _=>h0,fun h=>absurd h (by omega),fun h=>absurd h (by omega),fun h=>absurd h (by omega)⟩,fun h0=>?_⟩;rw[hc2 (h4 (by omega)) h0];exact⟨rfl,ρ2,a1.mono (by simp only[Nat.reduceMul,Nat.reduceEqDiff,if_false];omega),b1,b2,hL2⟩
  ·rw[v2]at h1;right;right;right;left;refine⟨_,_,by simp only[hfvs];rfl,?_⟩;refine(zma h1 (by simp only[Nat.reduceMul,Nat.reduceEqDiff,if_false];omega) _ _ gl size last (by omega) false k2 hL S va vc ws k3 hvi hok).mono ?_;rintro e W2 ⟨rfl,⟨ρ2,a1,a2⟩,a3⟩;obtain⟨b1,b2⟩:=pv ρ2 W2 a2 (kflat a3);(try dsimp only at a1);(try dsimp only);rw[<-q3]at a1 ⊢;have hL2:LogRow W2 gl g size last false:=hL.keep a3 hrl';refine⟨_,rfl,fun h0=>⟨⟨ρ2,by rw[v3];exact a1.mono (by simp),b1⟩,b2,hL2,fun _=>h4 (by omega),fun _=>h5 (by omega),fun _=>h0,fun h=>absurd h (by omega),fun h=>absurd h (by omega)⟩,fun h0=>?_⟩;rw[hc3 (h4 (by omega)) (h5 (by omega)) h0];exact⟨rfl,ρ2,a1.mono (by simp only[Nat.reduceMul,Nat.reduceEqDiff,if_false];omega),b1,b2,hL2⟩
  ·rw[v3]at h1;right;left;refine⟨_,by simp only[hfvs];rfl,?_⟩;refine(zhi h1 (by simp only[Nat.reduceMul,Nat.reduceEqDiff,if_false];omega)).mono ?_;rintro e W2 ⟨rfl,⟨ρ2,a1,a2⟩,a3⟩;obtain⟨b1,b2⟩:=pv ρ2 W2 a2 (kflat a3);(try dsimp only at a1);(try dsimp only);rw[<-q4]at a1 ⊢;have hL2:LogRow W2 gl g size last false:=hL.keep a3 hrl';refine⟨_,rfl,fun h0=>⟨⟨ρ2,by rw[v4];exact a1.mono (by simp),b1⟩,b2,hL2,fun _=>h4 (by omega),fun _=>h5 (by omega),fun _=>h6 (by omega),fun _=>h0,fun h=>absurd h (by omega)⟩,fun h0=>?_⟩;rw[hc4 (h4 (by omega)) (h5 (by omega)) (h6 (by omega)) h0];exact⟨rfl,ρ2,a1.mono (by simp only[Nat.reduceMul,Nat.reduceEqDiff,if_false];omega),b1,b2,hL2⟩
  ·rw[v4]at h1;right;right;right;right;refine⟨_,_,by simp only[hfvs];rfl,?_⟩;refine(zl9 h1 (by simp only[Nat.reduceMul,Nat.reduceEqDiff,if_false];omega) _ _ gl size last (by omega) false k2 hL hgl hrl' S _ ws k3 hvi hSi hok (hcn (h4 (by omega)) (h5 (by omega)) (h6 (by omega)) (h7 (by omega)))).mono ?_;rintro e W2 ⟨rfl,ρ2,a1,a2,a4,a3⟩;obtain⟨b1,b2⟩:=pv ρ2 W2 a2 a3;(try dsimp only at a1);(try dsimp only);rw[<-q5]at a1 a4 ⊢;refine⟨_,rfl,fun h0=>⟨⟨ρ2,by rw[v5];exact a1.mono (by simp),b1⟩,b2,?_,fun _=>h4 (by omega),fun _=>h5 (by omega),fun _=>h6 (by omega),fun _=>h7 (by omega),fun _=>h0⟩,fun h0=>?_⟩
   ·rw[h0,bu]at a4;exact a4
   ·rw[hc5 (h4 (by omega)) (h5 (by omega)) (h6 (by omega)) (h7 (by omega))];rw[ze2 h0]at a4;exact⟨rfl,ρ2,a1.mono (by simp only[Nat.reduceMul,Nat.reduceEqDiff,if_false];omega),b1,b2,a4⟩
open Go.RowKit Go.Maps
theorem OwnS.headJ {α:Type}{r:Rdr α}{t:TypeId}{w:World}{base:Nat}{S:Nat->Prop}{v:Value}{xs:List α} (h:OwnS r t w base S v xs) (hn:0<xs.length) : ∃ g c cur,v = .slice (some ⟨g,0,none⟩) xs.length c/\base<=g/\g<w.heap.size/\w.heap[g]? = some (.cells cur t (0,0)):=by
 obtain⟨gs,rfl,⟨h1,h2⟩,h3,h4⟩:=h;rcases h2 with⟨h2,h2'⟩|⟨g',cap',cur,h2,hb,hg,hn,hm,hcs,hx⟩
 ·rw[List.length_map,h2']at hn;exact absurd hn (Nat.lt_irrefl _)
 ·subst h2;exact⟨g',cap',cur,by rw[List.length_map],hb,(blt hg),hg⟩
theorem zhj {w W:World}{g:Nat}{ρ:Nat->Option DRol}{N:Nat}{d:Dv} (hm:Mine w W g ρ N d) (hN:N<=999700000) (hup:d.down=false) (gl:Nat) (size:Int) (hsz:0<size/\size<=1000) (last:Nat) (hl:last<=100000000) (hlog:LogRow W gl g size last false) (hgl:w.heap.size<=gl) (hrl:ρ gl=none)
  (v:Value) (ws:List JW) (hv:RdS rWr W (fun k=>ρ k=none/\k≠gl) v ws) (hok:WsOk ws) (hin : ∀ p∈ws,p.1<size) (hcn:(com1 d ws).1=0->(com2 d ws).1=0->(com3 d last ws).1=0->(com4 d last ws).1=0->jf (com4 d last ws).2 ws) :
  Calls Tryz.prog 76 #[.pointer (some ⟨gl,0,none⟩),v] W fun e W'=>e = .returned (.int .i64 (yr d last ws).1)/\∃ ρ',Mine w W' g ρ' (N+500) (yr d last ws).2/\RolNew ρ ρ' W/\
   LogRow W' gl g size (zcj (yr d last ws).1 last) (decide ((yr d last ws).1=2))/\Keep (fun k=>ρ k=none/\k≠gl) W W':=by
 obtain⟨va,vc,rfl,-⟩:=hv.slice;have HM:=hid hm;have HUP:=hid hup;have HL:=hid hlog;have HV:=hid hv;have HOK:=hid hok;have HIN:=hid hin;have HCN:=hid hcn;have HRL:=hid hrl;have hglt:=hlog.lt;have hl16:=hok.1;have hu0:useF size 0 0 false=0:=by unfold useF;rw[if_neg (by omega),if_neg (by simp)]
 have HU0:=hid hu0;clear hm hup hlog hv hok hin hcn hrl hu0;go_enter Tryz.func76,Tryz.ntmps76;go_wp2_with fail;obtain⟨w1,hw1⟩ : ∃ w1,w1=W.alloc (.cells #[.pointer (some ⟨gl,0,none⟩)] 138):=⟨_,rfl⟩
 have x1:Ext W w1:=by rw[hw1];exact(Ext.refl _).alloc _
 have r1:w1.heap[W.heap.size]? = some (.cells #[.pointer (some ⟨gl,0,none⟩)] 138 (0,0)):=by rw[hw1];exact heap_alloc_new _ _
 have s1:w1.heap.size=W.heap.size+1:=by rw[hw1];simp
 rw[<-hw1];obtain⟨w2,hw2⟩ : ∃ w2,w2=w1.alloc (.cells #[.slice va ws.length vc] 164):=⟨_,rfl⟩
 have x2:Ext w1 w2:=by rw[hw2];exact(Ext.refl _).alloc _
 have r2:w2.heap[w1.heap.size]? = some (.cells #[.slice va ws.length vc] 164 (0,0)):=by rw[hw2];exact heap_alloc_new _ _
 rw[<-hw2];rw[s1]at r2;have e2:w2.cell? ⟨W.heap.size,0,none⟩=some (.pointer (some ⟨gl,0,none⟩)):=Ext.cellS x2 ((cr 0 r1));have e3:w2.cell? ⟨W.heap.size+1,0,none⟩=some (.slice va ws.length vc):=(cr 0 r2)
 have xW:Ext W w2:=x1.trans x2;have hb32:W.heap.size+1<w2.heap.size:=x8 e3;obtain⟨b2,hb2⟩ : ∃ b,b=W.heap.size:=⟨_,rfl⟩
 obtain⟨b3,hb3⟩ : ∃ b,b=W.heap.size+1:=⟨_,rfl⟩
 rw[<-hb3]at e3 hb32 ⊢;rw[<-hb2]at e2 ⊢;have R3:=hid (show w2.heap[b3]? = some (.cells #[.slice va ws.length vc] 164 (0,0)) by rw[hb3];exact r2);have HB2:=hid hb2;have HB3:=hid hb3;have E2:=hid e2;have E3:=hid e3;have XW:=hid xW;clear hw1 hw2 x1 x2 r1 r2 s1 hb2 hb3;refine(zc5 (HM.out.ext XW.out) HUP.out gl size (by omega) last (HL.out.ext XW.out) 0 (by omega) none 0 0 false).mono ?_;rintro e w3 ⟨rfl,rfl⟩;rw[HU0.out];have i16 : ¬ (16:Int)<(ws.length:Int):=by omega
 have HXL:=hid xW;clear xW;go_wp2_with fail;clear e2 e3;go_loopw [20] (fun u20 wr=>∃ i:Nat,u20 = .int .i64 i/\i<=ws.length/\Ext w2 wr) (fun u20 _=>ws.length-(intOf u20).toNat);case atStart=>exact⟨0,rfl,Nat.zero_le _,Ext.refl _⟩
 case round=>
  obtain⟨i,rfl,hi,hxi⟩:=hrel;have c2:=Ext.cellS hxi E2.out;have c3:=Ext.cellS hxi E3.out;have HXI:=hid hxi;have hxWi:=XW.out.trans hxi;have HXWI:=hid hxWi;have hb2w:=x8 c2;by_cases hlt:i<ws.length
  ·obtain⟨gr,o,cap,u,e,hgr,hSg,d0,d1,h1,h2,h3⟩:=(HV.out.ext hxWi).atWr i hlt;simp only[Value.slice.injEq]at e;obtain⟨rfl,-,rfl⟩:=e;obtain⟨p1,p2,p3⟩:=HOK.out.2 _ (List.getElem_mem hlt);have p4:=HIN.out _ (List.getElem_mem hlt);generalize ws[i]=x at d0 d1 h1 h2 h3 p1 p2 p3 p4;obtain⟨bn,data⟩:=x;dsimp only at d0 d1 h1 h2 h3 p1 p2 p3 p4;obtain⟨ua,uc,rfl⟩:=h2.slice';rw[p3]at d1;have i1:(i:Int)<(ws.length:Int):=by omega
   have n1 : ¬ b2=wr.heap.size:=by omega
   have n2 : ¬ wr.heap.size=b2:=by omega
   have hux:useF size bn 512 true=0:=by unfold useF;rw[if_neg (by omega),if_neg (by simp)]
   have HUX:=hid hux;clear hux hxi hxWi h2 h3 p3;go_wp2_with fail;obtain⟨wa,hwa⟩ : ∃ wa,wa=wr.alloc (.cells #[.int .i64 bn,.slice ua 512 uc] 220):=⟨_,rfl⟩
   rw[<-hwa];have hxa:Ext wr wa:=by rw[hwa];exact(Ext.refl _).alloc _
   have hxW5:=HXWI.out.trans hxa;have HX5:=hid (HXI.out.trans hxa);refine(zc5 (HM.out.ext hxW5) HUP.out gl size (by omega) last (HL.out.ext hxW5) bn (by omega) ua 512 uc true).mono ?_;rintro e w5 ⟨rfl,rfl⟩;rw[HUX.out];clear hwa hxa hxW5 d0 d1 c2 c3;go_wp2_with fail;exact⟨⟨i+1,rfl,by omega,HX5.out⟩,by simp only[intOf];omega⟩
  ·have hie:i=ws.length:=by omega
   subst hie;have i1 : ¬ ((ws.length:Nat):Int)<(ws.length:Int):=by omega
   clear hxi hxWi;go_wp2_with fail;refine(zo7 wr (fun k=>(ρ k=none/\k≠gl)/\k<W.heap.size) (fun k h=>Nat.lt_of_lt_of_le h.2 HXWI.out.size) _ ws ((HV.out.mono fun k h hl=>⟨h,hl⟩).ext HXWI.out) (by omega)).mono ?_;rintro e w6 ⟨v6,rfl,ho6,hx6⟩;obtain⟨a6,cc6,rfl⟩:=ho6.slice;have row3:=yy (HXI.out.trans hx6) R3.out;have fz3:=zg row3 0;have c3w:w6.cell? ⟨b3,0,none⟩=some (.slice va ws.length vc):=(cr 0 row3)
   have HO6:=hid ho6;have HX6:=hid hx6;have HROW:=hid row3;clear ho6 hx6 row3 c3;go_wp2_with fail;obtain⟨w7,hw7⟩ : ∃ w7,w7=w6.setCell ⟨b3,0,none⟩ (.slice a6 ws.length cc6):=⟨_,rfl⟩
   rw[<-hw7];have hxW6:Ext W w6:=HXWI.out.trans HX6.out;have hxW7:Ext W w7:=by rw[hw7];exact hxW6.setCell (by have:=HB3.out;show W.heap.size<=b3;omega) _
   have row7:w7.heap[b3]? = some (.cells #[.slice a6 ws.length cc6] 164 (0,0)):=by rw[hw7];exact(zw HROW.out _).trans rfl
   have hs67:w7.heap.size=w6.heap.size:=by rw[hw7];simp
   have hb2n:b2≠b3:=by have:=HB2.out;have:=HB3.out;omega
   have c27:w7.cell? ⟨b2,0,none⟩=some (.pointer (some ⟨gl,0,none⟩)):=by
    have h6:=Ext.cellS (HXI.out.trans HX6.out) E2.out;rw[hw7];exact yk ((Keep.refl (fun k=>k≠b3) w6).setCell (by simp) _) h6 hb2n
   have hb3r:b3<wr.heap.size:=Nat.lt_of_lt_of_le (x8 E3.out) HXI.out.size;have hst7:w6.heap.size<=w7.heap.size:=by omega
   have hk67:Keep (fun k=>k≠b3) w6 w7:=by rw[hw7];exact(Keep.refl _ _).setCell (by simp) _
   have hnb3 : ∀ k,(Value.slice a6 ws.length cc6).ownBlock=some k->wr.heap.size<=k/\k<w6.heap.size:=fun k hk=>HO6.out.lt k hk;have hW6:W.heap.size<=w6.heap.size:=hxW6.size;have hb3W:W.heap.size<=b3:=by have:=HB3.out;omega
   obtain⟨B,hB⟩ : ∃ B,B=wr.heap.size:=⟨_,rfl⟩
   have ho7:OwnS rWr 220 w7 B (fun k=>((ρ k=none/\k≠gl)/\k<W.heap.size)\/w6.heap.size<=k) (.slice a6 ws.length cc6) ws:=by
    rw[hB];refine(HO6.out.kept (hk67.mono fun k hk hl=>?_)).widen (fun k h _=>.inl h) (fun k hk h=>?_)
    ·rcases hk with⟨-,h⟩|h
     ·omega
     ·have:=(hnb3 k h).1;omega
    ·have h1:=hnb3 k hk;have h2:=HXWI.out.size;rcases h with⟨-,h⟩|h <;> omega
   rw[<-hB]at hb3r hnb3;have HW7:=hid hxW7;have HO7:=hid ho7;have HR7:=hid row7;have HC27:=hid c27;have HNB:=hid hnb3;clear hB hw7 hs67 hk67 c3w fz3 ho7 row7 c27 hnb3 hxW6 hxW7;go_loopw [38] (fun u38 wq=>∃ i:Nat,u38 = .int .i64 i/\i<=ws.length/\Ext W wq/\w6.heap.size<=wq.heap.size/\wq.heap[b3]? = some (.cells #[.slice a6 ws.length cc6] 164 (0,0))/\wq.cell? ⟨b2,0,none⟩=some (.pointer (some ⟨gl,0,none⟩))/\OwnS rWr 220 wq B (fun k=>((ρ k=none/\k≠gl)/\k<W.heap.size)\/w6.heap.size<=k) (.slice a6 ws.length cc6) ws) (fun u38 _=>ws.length-(intOf u38).toNat);case atStart=>exact⟨0,rfl,Nat.zero_le _,HW7.out,hst7,HR7.out,HC27.out,HO7.out⟩
   case round=>
    obtain⟨i,rfl,hi,hxq,hsq,hrq,hcq,hoq⟩:=hrel;have HXQ:=hid hxq;have HOQ:=hid hoq;have HRQ:=hid hrq;by_cases hlt:i<ws.length
    ·obtain⟨g7,cc7,cur,e,hg7,hg7l,hrow7⟩:=hoq.headJ (by omega);simp only[Value.slice.injEq]at e;obtain⟨rfl,-,rfl⟩:=e;obtain⟨gr,o,cap,u,e,hgr,hSg,d0,d1,h1,h2,h3⟩:=hoq.rd.atWr i hlt;simp only[Value.slice.injEq,Option.some.injEq,Addr.mk.injEq,and_true,true_and]at e;obtain⟨⟨rfl,rfl⟩,-⟩:=e;rw[Nat.zero_add]at d0 d1;have i1:(i:Int)<(ws.length:Int):=by omega
     have hdl:=(HOK.out.2 _ (List.getElem_mem hlt)).2.2;obtain⟨ua,uc,rfl⟩:=h2.slice';have hcl:=zmj wr.drew _ _ (h2.drew) (by omega);rw[hdl]at hcl d1;have HCL:=hid hcl;have D1:=hid d1;have HROW7:=hid hrow7;have HDL:=hid hdl;have HH2:=hid h2;have c3q:wr.cell? ⟨b3,0,none⟩=some (.slice (some ⟨g7,0,none⟩) ws.length cc6):=(cr 0 hrq)
     have n37:b3≠g7:=by omega
     clear hxq hoq hrq hrow7 hcl h2 h3 d0 h1 hdl;go_wp2_with fail;have hxd:Ext wr wr.drew:=by(exact Ext.xt)
     refine zr (fun w'=>w'.cell? ⟨b3,0,none⟩=some (.slice (some ⟨g7,0,none⟩) ws.length cc6)/\w'.cell? ⟨g7,i*2+1,none⟩=some (.slice ua 512 uc)) [10] (by kernel_rfl) ⟨Ext.cellS hxd c3q,Ext.cellS hxd D1.out⟩ (fun hS=>?_);(refine za 0 rfl ?_;(try simp only[Act.put,tq0,tq1,tq2,tq3,tq4,tq5]));(refine za 1 rfl ?_;(try simp only[Act.put,tq0,tq1,tq2,tq3,tq4,tq5]));(refine za 2 rfl ?_;(try simp only[Act.put,tq0,tq1,tq2,tq3,tq4,tq5]));(refine za 3 rfl ?_;(try simp only[Act.put,tq0,tq1,tq2,tq3,tq4,tq5]));(refine za 4 rfl ?_;(try simp only[Act.put,tq0,tq1,tq2,tq3,tq4,tq5]));(refine za 5 rfl ?_;(try simp only[Act.put,tq0,tq1,tq2,tq3,tq4,tq5]));(refine za 6 rfl ?_;(try simp only[Act.put,tq0,tq1,tq2,tq3,tq4,tq5]));refine ze (rs:=[7]) (by kernel_rfl) (by decide) (AllT.consS rfl (fun K hK=>?_) AllT.nil);go_simp;go_at_call 83;refine HCL.out.mono ?_;rintro e w8 ⟨v8,rfl,ho8,hb8⟩;obtain⟨a8,c8,rfl⟩:=OwnB.slice ho8;have hx8:Ext wr w8:=hxd.trans hb8;have row8:=yy hx8 HROW7.out;have fz8:=zg row8 (i*2+1);have d18:=Ext.cellS hx8 D1.out;have c38:=Ext.cellS hx8 c3q;have HO8:=hid (zk ho8);have HB8:=hid (fun k (hk:(Value.slice a8 _ c8).ownBlock=some k)=>show w6.heap.size<=k from Nat.le_trans (Nat.le_trans hsq hxd.size) (World.ownsRow.lt ho8 k hk).1);have HX8:=hid hx8;clear ho8 hb8 row8 hS;(refine hK.out _ _ (⟨c38,d18⟩) (fun hS=>?_);clear hK K);(refine za 8 rfl ?_;(try simp only[Act.put,tq0,tq1,tq2,tq3,tq4,tq5]));(refine za 9 rfl ?_;(try simp only[Act.put,tq0,tq1,tq2,tq3,tq4,tq5]));clear hx8 c38;refine ze (rs:=[10]) (by kernel_rfl) (by decide) (AllT.consF rfl rfl (fun K hK=>?_) AllT.nil);go_simp;(refine hK.out _ _ ?_;clear hK K);refine zn (by kernel_rfl) (NoPanic.normal ?_) _;go_wp2_with fail;have hg7W:W.heap.size<=g7:=by omega
     have hk9:=(Keep.refl (fun k=>k≠g7) w8).setCell (p:=⟨g7,i*2+1,none⟩) (by simp) (.slice a8 (ws[i]).2.length c8);refine⟨⟨i+1,rfl,by omega,(HXQ.out.trans HX8.out).setCell hg7W _,?_,?_,yk hk9 (Ext.cellS HX8.out hcq) (by have:=HB2.out;show b2≠g7;omega),(HOQ.out.ext HX8.out).setD i hlt HO8.out (fun _ k hk=>.inr (HB8.out k hk))⟩,by simp only[intOf];omega⟩
     ·have:=HX8.out.size;have h9:(w8.setCell ⟨g7,i*2+1,none⟩ (.slice a8 (ws[i]).2.length c8)).heap.size=w8.heap.size:=by simp
      omega
     ·exact(hk9.block b3 n37 (Array.getElem?_eq_some_iff.1 (yy HX8.out HRQ.out)).1).trans (yy HX8.out HRQ.out)
    ·have hie:i=ws.length:=by omega
     subst hie;have i1 : ¬ ((ws.length:Nat):Int)<(ws.length:Int):=by omega
     have HXW:=hid hxq;have HCQ:=hid hcq;clear hxq hoq hrq hcq;go_wp2_with fail;have hxd:Ext wr wr.drew:=by(exact Ext.xt)
     have k2:wr.drew.cell? ⟨b2,0,none⟩=some (.pointer (some ⟨gl,0,none⟩)):=HCQ.out;have k3:wr.drew.cell? ⟨b3,0,none⟩=some (.slice a6 ws.length cc6):=(cr 0 (yy hxd HRQ.out))
     have k0:=((HL.out.ext HXW.out).ext hxd).c0;refine zr (fun w'=>w'.cell? ⟨b2,0,none⟩=some (.pointer (some ⟨gl,0,none⟩))/\w'.cell? ⟨b3,0,none⟩=some (.slice a6 ws.length cc6)/\w'.cell? ⟨gl,0,none⟩=some (.pointer (some ⟨g,0,none⟩))) [18,19] (by kernel_rfl) ⟨k2,k3,k0⟩ (fun hS=>?_);(refine za 0 rfl ?_;(try simp only[Act.put,tq0,tq1,tq2,tq3,tq4,tq5]));(refine za 1 rfl ?_;(try simp only[Act.put,tq0,tq1,tq2,tq3,tq4,tq5]));(refine za 2 rfl ?_;(try simp only[Act.put,tq0,tq1,tq2,tq3,tq4,tq5]));(refine za 4 rfl ?_;(try simp only[Act.put,tq0,tq1,tq2,tq3,tq4,tq5]));(refine za 5 rfl ?_;(try simp only[Act.put,tq0,tq1,tq2,tq3,tq4,tq5]));(refine za 6 rfl ?_;(try simp only[Act.put,tq0,tq1,tq2,tq3,tq4,tq5]));(refine za 7 rfl ?_;(try simp only[Act.put,tq0,tq1,tq2,tq3,tq4,tq5]));(refine za 8 rfl ?_;(try simp only[Act.put,tq0,tq1,tq2,tq3,tq4,tq5]));(refine za 9 rfl ?_;(try simp only[Act.put,tq0,tq1,tq2,tq3,tq4,tq5]));(refine za 10 rfl ?_;(try simp only[Act.put,tq0,tq1,tq2,tq3,tq4,tq5]));(refine za 11 rfl ?_;(try simp only[Act.put,tq0,tq1,tq2,tq3,tq4,tq5]));(refine za 12 rfl ?_;(try simp only[Act.put,tq0,tq1,tq2,tq3,tq4,tq5]));(refine za 13 rfl ?_;(try simp only[Act.put,tq0,tq1,tq2,tq3,tq4,tq5]));(refine za 14 rfl ?_;(try simp only[Act.put,tq0,tq1,tq2,tq3,tq4,tq5]));(refine za 15 rfl ?_;(try simp only[Act.put,tq0,tq1,tq2,tq3,tq4,tq5]));refine ze (rs:=[3]) (by kernel_rfl) (by decide) (AllT.consS rfl (fun K hK=>?_) AllT.nil);go_simp;go_at_call 128;refine(zgl wr.drew gl 3 a6 ws.length cc6).mono ?_;rintro e q2 ⟨bw,bf,bl,rfl,l1,l2,l3,e1,e2,e3,hx2⟩;have hx12:Ext wr q2:=hxd.trans hx2;(refine hK.out _ _ (⟨Ext.cellS hx2 k2,Ext.cellS hx2 k3,Ext.cellS hx2 k0⟩) (fun hS=>?_);clear hK K);refine ze (rs:=[16]) (by kernel_rfl) (by decide) (AllT.consS rfl (fun K hK=>?_) AllT.nil);go_simp;obtain⟨q3,hq3⟩ : ∃ q3,q3=q2.alloc (.cells #[.func (.func 160) #[] #[.pointer (some ⟨bw,0,none⟩),.pointer (some ⟨bf,0,none⟩),.pointer (some ⟨bl,0,none⟩)],.func (.func 123) #[.pointer (some ⟨g,0,none⟩)] #[],.func (.func 129) #[] #[.pointer (some ⟨b2,0,none⟩),.pointer (some ⟨b3,0,none⟩)],.func (.func 123) #[.pointer (some ⟨g,0,none⟩)] #[],.func (.func 131) #[] #[.pointer (some ⟨b2,0,none⟩),.pointer (some ⟨b3,0,none⟩)]] 66):=⟨_,rfl⟩
     rw[<-hq3];have hx3:Ext q2 q3:=by rw[hq3];exact(Ext.refl _).alloc _
     have hr3:q3.heap[q2.heap.size]? = some (.cells #[.func (.func 160) #[] #[.pointer (some ⟨bw,0,none⟩),.pointer (some ⟨bf,0,none⟩),.pointer (some ⟨bl,0,none⟩)],.func (.func 123) #[.pointer (some ⟨g,0,none⟩)] #[],.func (.func 129) #[] #[.pointer (some ⟨b2,0,none⟩),.pointer (some ⟨b3,0,none⟩)],.func (.func 123) #[.pointer (some ⟨g,0,none⟩)] #[],.func (.func 131) #[] #[.pointer (some ⟨b2,0,none⟩),.pointer (some ⟨b3,0,none⟩)]] 66 (0,0)):=by rw[hq3];exact heap_alloc_new _ _
     have hx13:Ext wr q3:=hx12.trans hx3;have hxW3:Ext W q3:=HXW.out.trans hx13;have zW:=HXW.out.size;have zz:wr.heap.size<=wr.drew.heap.size:=hxd.size;have z2:=hx2.size;have hlate : ∀ k,W.heap.size<=k->ρ k=none/\k≠gl:=fun k hk=>⟨HM.out.late ((Ext.refl _)) hk,by omega⟩
     have hb2W:W.heap.size<=b2:=by have:=HB2.out;omega
     have hnb : ∀ k,(Value.slice a6 ws.length cc6).ownBlock=some k->ρ k=none/\k≠gl:=fun k hk=>hlate k (by have:=(HNB.out k hk).1;omega);have hst:=zol (HM.out.ext hxW3) hN gl size last hl (HL.out.ext hxW3) hgl HRL.out
      (fun k=>ρ k=none/\k≠gl/\k<q3.heap.size) a6 cc6 ws
      (((HOQ.out.ext hx13).rd).mono fun k hk hl=>by
       rcases hk with (⟨h,-⟩|h)|h
       ·exact⟨h.1,h.2,hl⟩
       ·have h5:=hlate k (by omega);exact⟨h5.1,h5.2,hl⟩
       ·exact⟨(hnb k h).1,(hnb k h).2,hl⟩)
      (fun k hk=>hk) HOK.out HCN.out q2.heap.size bw bf bl b2 b3 (fun k hk=>hlate k (by omega)) hr3 (hx3.cellS e1) (hx3.cellS e2) (hx3.cellS e3) (Ext.cellS hx13 HCQ.out) (Ext.cellS hx3 (Ext.cellS hx2 k3))
     have HST:=hid hst;have hxW3c:=hxW3;have HHX:=hid hxW3;have C2:=hid (Ext.cellS hx13 HCQ.out);have C3:=hid (Ext.cellS hx3 (Ext.cellS hx2 k3));have C0:=hid ((HL.out.ext hxW3).c0);have HLT:=hid hlate;clear hst hr3 e1 e2 e3 hx2 hq3 hxW3 hxW3c hS hlate hnb k2 k3 k0;(refine hK.out _ _ (⟨C2.out,C3.out,C0.out⟩) (fun hS=>?_);clear hK K);refine ze (rs:=[17]) (by kernel_rfl) (by decide) (AllT.consS rfl (fun K hK=>?_) AllT.nil);go_simp;go_at_call 127;refine HST.out.mono ?_;rintro e q5 ⟨x,rfl,hxe,ρ5,hm5,hr5,hk5,hL5⟩;have HM5:=hid hm5;have HR5:=hid hr5;have HK5:=hid hk5;have HXE:=hid hxe;have HL5:=hid hL5;clear hm5 hr5 hk5 hxe HST hS hL5;(refine hK.out _ _ (⟨yk HK5.out C2.out (HLT.out _ (by omega)),yk HK5.out C3.out (HLT.out _ (by omega)),HL5.out.c0⟩) (fun hS=>?_);clear hK K);refine ze (rs:=[18]) (by kernel_rfl) (by decide) (AllT.consF rfl rfl (fun K hK=>?_) AllT.nil);go_simp;go_at_call 109;refine(zcu q5 gl g size (zcj x last) HL5.out x (by omega)).mono ?_;rintro e q6 ⟨rfl,rfl⟩;(refine hK.out _ _ ?_;clear hK K);refine ze (rs:=[19]) (by kernel_rfl) (by decide) (AllT.consF rfl rfl (fun K hK=>?_) AllT.nil);go_simp;(refine hK.out _ _ ?_;clear hK K);refine zn (by kernel_rfl) (NoPanic.normal ?_) _;have hRN:RolNew ρ ρ5 W:=fun k hk=>(HR5.out k hk).imp id (fun h=>Nat.le_trans HHX.out.size h);have hKK:Keep (fun k=>ρ k=none/\k≠gl) W q5:=(HHX.out.keep _).trans (HK5.out.mono fun k hk _=>hk);have HRN:=hid hRN;have HKK:=hid hKK;clear hRN hKK hS;go_wp2_with fail;go_ret;refine⟨by rw[<-HXE.out];rfl,ρ5,?_,HRN.out,?_,HKK.out.trans ((Keep.refl _ _).setCell (by simp) _)⟩
     ·exact HM5.out.log hgl (ky HR5.out HRL.out (by have:=HHX.out.size;omega)) 3 _
     ·rw[<-HXE.out];exact HL5.out.dead _
end
end Go.Proofs.YtnadlnmclameiaaGreatDoor
