/- part 6 -/
import Derived.Test.YtnadlnmclameiaaGreatDoorTS03
import Derived.Deep.WholeRow
set_option maxRecDepth 100000
set_option maxHeartbeats 8000000
set_option linter.all false
namespace Go.Proofs.YtnadlnmclameiaaGreatDoor
section
open Go.RowKit Go.Maps
theorem zsa {w:World}{g o:Nat}{n cap:Nat}{l:List UInt8} (h:RdB w (.slice (some ⟨g,o,none⟩) n cap) l):w.rangeAt g o (bvs l):=fun j v hv=>by
 have hj:j<l.length:=by have:=(List.getElem?_eq_some_iff.1 hv).1;simpa[bvs] using this
 obtain⟨g',o',e,rfl,hg,hc⟩:=zj8 h j hj;simp only[Option.some.injEq,Addr.mk.injEq,and_true]at e;obtain⟨rfl,rfl⟩:=e;rw[hc,<-hv,zb1 l j hj]
theorem jt:(Tryz.prog.info? 85).map (·.size)=some 512:=by kernel_rfl
theorem zxg {w:World}{a:Option Addr}{n cap:Nat} (h:512<=n):(Instr.arrayAt 85 (.slice a n cap)).run Tryz.prog w = .ok (.pointer a) w:=by
 have : ¬ n<512:=by omega
 simp[Instr.arrayAt,run_underlying Tryz.underlying85,this]
theorem zjw {w:World}{ops:Array Oper}{o:Oper}{a:Act}{K:Act->World->Prop}{Q:Exit->Act->World->Prop}{E:Prop} (hgd:o.guard=none) (x:Operand)
  (ho:o.op = .buildSlice 62 1 #[(0,x)]) (b:Bk) (hx:a.eval x = .agg (bvs b).toArray) (hb:b.length=512)
  (h:K (a.put o.dst (.slice (some ⟨w.heap.size,0,none⟩) 1 1)) (w.alloc (.cells (bvs b).toArray 85))) :
  if Region.wanted o (yielded ops a.tmps)=true then Oper.wp Tryz.prog o a w K Q else E:=by
 have hw:Region.wanted o (yielded ops a.tmps)=true:=by simp[Region.wanted,hgd]
 rw[if_pos hw];unfold Oper.wp execOp;simp only[ho,List.map_toArray,List.map_cons,List.map_nil,hx,Sem.run_bind,Sem.run_pure,Result.andThen_ok,zm6 w b hb];exact h
theorem znr {w:World}{ops:Array Oper}{o:Oper}{a:Act}{K:Act->World->Prop}{Q:Exit->Act->World->Prop}{E:Prop} (hgd:o.guard=none) (s x:Operand)
  (ho:o.op = .call { callee:=.builtin .append,args:=#[s,x],argTypes:=#[62,62] }) (base:Nat)
  (v:Value) (xs:List Bk) (hs:a.eval s=v) (happ:OwnS rBk 85 w base (fun _=>False) v xs)
  (b:Bk) (hb:b.length=512) (gb:Nat) (hx:a.eval x = .slice (some ⟨gb,0,none⟩) 1 1)
  (hrow:w.heap[gb]? = some (.cells (bvs b).toArray 85 (0,0))) (hl:xs.length<=1000000002) (hbase:base<=w.heap.size)
  (h : ∀ v' w',OwnS rBk 85 w' base (fun _=>False) v' (xs++[b])->w.grownBy w' v.ownBlock->(∀ k,v'.ownBlock=some k->v.ownBlock=some k\/w.heap.size<=k)->K (a.put o.dst v') w') :
  if Region.wanted o (yielded ops a.tmps)=true then Oper.wp Tryz.prog o a w K Q else E:=by
 have hw:Region.wanted o (yielded ops a.tmps)=true:=by simp[Region.wanted,hgd]
 rw[if_pos hw];have hc:cellsOf [(bvs b,b)]=bvs b:=by simp[cellsOf]
 refine zhl rBk s x 62 62 85 _ 512 ho Tryz.underlying62 zgz (by simp[zBk,Value.cells,rBk]) base _ v xs hs happ _ [(bvs b,b)] hx ?_ ?_ (fun _ h=>h.elim) (by simp;omega) (by simp;omega) hbase ?_
 ·rw[hc];exact zby Tryz.underlying62 hrow (qh b) (by simp[bvs,hb,rBk])
 ·intro p hp;obtain rfl:=List.mem_singleton.1 hp;exact⟨rfl,hb⟩
 ·intro v' w' k1 k2 k3;exact h v' w' k1 k2 k3
theorem DvP.storeW {w:World}{g:Nat}{ρ:Nat->Option DRol}{N:Nat}{d:Dv}{vs:Value}{gm:Nat}{m:Int->Option Value} (h:DvP w g ρ N d vs gm m) {n:Int} (hn:kInt.ok n) (hr:0<=n/\n<d.safe.length) {b:Bk}{v':Value} (hN:N<maxLen) {wA wB:World} (hl:(d.pend n).length<N+1) (hxA:Ext w wA)
  (ho:OwnS rBk 85 wB 0 (fun _=>False) v' (d.pend n++[b])) (hgB:wA.grownBy wB ((m n).getD nilS).ownBlock) (hv' : ∀ k,v'.ownBlock=some k->((m n).getD nilS).ownBlock=some k\/wA.heap.size<=k) :
  MapG kInt wB gm N m/\(∀ j,(ρ j=none\/j=g)->j<w.heap.size->wB.heap[j]? = w.heap[j]?)/\
  ∃ w',(Instr.mapUpdate 63 (.map (some gm)) (.int .i64 n) v').run Tryz.prog wB = .ok () w'/\DvP w' g (rolW ρ v' n) (N+1) { d with pend:=setP d.pend n (d.pend n++[b]) } vs gm (upd m n v')/\Keep (fun k=>ρ k=none) w w'/\(∀ k,rolW ρ v' n k≠none->ρ k≠none\/w.heap.size<=k):=by
 have hkB:Keep (fun j=>¬ ((m n).getD nilS).ownBlock=some j) w wB:=(hxA.keep _).trans ((zl hgB).mono fun j hj _ e=>hj e.symm);have hr0 : ∀ j,((m n).getD nilS).ownBlock=some j->ρ j=some (.row n):=fun j hj=>h.rpend n hn j hj;have hM:MapG kInt wB gm N m:=h.map.kept hkB (fun e=>by have:=hr0 _ e;rw[h.rm]at this;simp at this);obtain⟨w',hrun,hm,hg,hsz⟩:=hM.store Tryz.underlying63 hN (x:=n) hn v';obtain⟨h1,h2,h3⟩:=h.write (N':=N+1) hn hr hl (Nat.le_succ N) hxA ho hgB hv' hm hg;refine⟨hM,fun j hj hl=>hkB.block j (fun e=>?_) hl,w',hrun,h1,h2,h3⟩;have:=hr0 _ e;rcases hj with hj|hj
 ·rw[hj]at this;simp at this
 ·rw[hj,h.rg]at this;simp at this
theorem ze5 (w:World) (g:Nat) (ρ:Nat->Option DRol) (N:Nat) (d:Dv) (h:DvAt w g ρ N d) (hN:N<=1000000000) (n:Int) (hn : -9223372036854775808<=n/\n<=9223372036854775807) (v:Value) (data:List UInt8) (hv:RdB w v data) (hvb : ∀ k,v.ownBlock=some k->ρ k=none) :
  Calls Tryz.prog 122 #[.pointer (some ⟨g,0,none⟩),.int .i64 n,v] w (zhd w g ρ (N+2) (zy d n data)):=by
 obtain⟨a,c,rfl,hc1,hc2,-,-⟩:=id hv;have hlen:data.length<=9223372036854775807:=by unfold maxLen at hc2;omega
 have HN:=hid hn;have HV:=hid hv;have HVB:=hid hvb;have H:=hid h;have hrg:ρ g=some .dev:=by obtain⟨_,_,_,h⟩:=h;exact h.rg
 have HRG:=hid hrg;have hnr : ∀ k,(Value.slice a data.length c).ownBlock=some k->k≠g:=fun k hk e=>by have:=hvb k hk;rw[e,hrg]at this;simp at this
 have HNR:=hid hnr;clear h hv hvb hrg hnr hn;by_cases hd:data.length=512
 ·have HW:=hid (show zy d n data=if (opF d n 0).1=0 then (0,{ (opF d n 0).2 with pend:=setP d.pend n (d.pend n++[data]) }) else opF d n 0 by unfold zy;rw[if_pos hd]);go_enter Tryz.func122,Tryz.ntmps122;go_wp2_with fail;refine(zaz w g ρ N d H.out hN n 0 HN.out (by omega)).mono ?_;rintro e w1 ⟨rfl,hd1,hk1⟩;obtain⟨hsm1,hsm2⟩:=zf8 d n 0;by_cases hx:(opF d n 0).1=0
  ·obtain⟨-,hr1,hr2⟩:=zgw hx;have HW2:=hid (show zy d n data=(0,{ (opF d n 0).2 with pend:=setP d.pend n (d.pend n++[data]) }) by rw[HW.out,if_pos hx]);rw[hx];generalize (opF d n 0).2=d1 at hd1 hsm1 hsm2 HW2;obtain⟨vs,gm,m,hp⟩:=hd1;have HP:=hid hp;have HR:=hid (show 0<=n/\n<d1.safe.length by rw[hsm1];exact⟨hr1,hr2⟩);have HPD:=hid hsm2;have HK1:=hid hk1;have HV1:=hid (Rd.carry HV.out hk1.size fun k hk hl=>hk1.block k (HNR.out k hk) hl);clear hp hsm1 hsm2 hk1 hx hr1 hr2 HW;have c1:=HP.out.c1;obtain⟨ra,rc,hrv⟩:=(HP.out.pend n HN.out).slice;have HRV:=hid hrv;have hwl : ∀ w',Ext w1 w'->(Instr.lookup 63 (.map (some gm)) (.int .i64 n) false).run Tryz.prog w' = .ok (.slice ra (d1.pend n).length rc) w':=fun w' hw=>by
    have:=(HP.out.ext hw).map.look Tryz.underlying63 (ze9 _) (x:=n) HN.out;rw[show (m n).getD (.slice none 0 0)=_ from HRV.out]at this;exact this
   have HWL:=hid hwl;clear hwl hrv;have harr:=fun W=>zxg (w:=W) (a:=a) (n:=512) (cap:=c) (by omega);obtain⟨gd,od,rfl⟩ : ∃ gd od,a=some ⟨gd,od,none⟩:=by
    obtain⟨g',o',e,_⟩:=zj8 HV1.out 0 (by omega);exact⟨g',o',e⟩
   have hrng:=zsa HV1.out;have hgd:gd<w1.heap.size:=RdB.lt HV1.out (by omega);have hbl:=fun W=>zm6 W data hd;have HD:=hid hd;clear hd;go_wp2_with fail;have hxd:Ext w1 w1.drew:=by(exact Ext.xt)
   refine jr (fun w'=>w'.cell? ⟨g,1,none⟩=some (.map (some gm))/\(Instr.lookup 63 (.map (some gm)) (.int .i64 n) false).run Tryz.prog w' = .ok (.slice ra (d1.pend n).length rc) w'/\w'.rangeAt gd od (bvs data)) 16 (by kernel_rfl) ⟨Ext.cellS hxd c1,HWL.out _ hxd,(World.rangeAt_drew _ _ _ _).2 hrng⟩ (fun hS=>?_);(refine zf 0 rfl ?_;(try simp only[Act.put,tq0,tq1,tq2,tq3,tq4,tq5]));(refine zf 1 rfl ?_;(try simp only[Act.put,tq0,tq1,tq2,tq3,tq4,tq5]));(refine zf 2 rfl ?_;(try simp only[Act.put,tq0,tq1,tq2,tq3,tq4,tq5]));(refine zf 3 rfl ?_;(try simp only[Act.put,tq0,tq1,tq2,tq3,tq4,tq5]));(refine zf 4 rfl ?_;(try simp only[Act.put,tq0,tq1,tq2,tq3,tq4,tq5]));(refine zf 5 rfl ?_;(try simp only[Act.put,tq0,tq1,tq2,tq3,tq4,tq5]));(refine zf 6 rfl ?_;(try simp only[Act.put,tq0,tq1,tq2,tq3,tq4,tq5]));(refine zf 7 rfl ?_;(try simp only[Act.put,tq0,tq1,tq2,tq3,tq4,tq5]));(refine zf 8 rfl ?_;(try simp only[Act.put,tq0,tq1,tq2,tq3,tq4,tq5]));(refine zf 9 rfl ?_;(try simp only[Act.put,tq0,tq1,tq2,tq3,tq4,tq5]));(refine zf 10 rfl ?_;(try simp only[Act.put,tq0,tq1,tq2,tq3,tq4,tq5]));(refine zf 11 rfl ?_;(try simp only[Act.put,tq0,tq1,tq2,tq3,tq4,tq5]));(refine zf 12 rfl ?_;(try simp only[Act.put,tq0,tq1,tq2,tq3,tq4,tq5]));refine zax (i:=13) (v:=.agg (bvs data).toArray) rfl (by kernel_rfl) (by kernel_rfl) (by kernel_rfl) (by kernel_rfl) (fun _ _ _ h=>h) (yieldsIf_load_mid (by rfl) 85 _ rfl gd od rfl (bvs data) _ (fun W hW=>hW.2.2) Tryz.underlying85 rfl (by rw[jt];simp[bvs,HD.out])) (by assumption) ?_;try simp only[Act.put,tq0,tq1,tq2,tq3,tq4,tq5]
   (refine qb (i:=14) (by kernel_rfl) rfl (fun K hK=>?_));refine zjw rfl _ rfl data rfl HD.out ?_;have hxA:Ext w1 ((w1.drew.alloc (.cells (bvs data).toArray 85))):=by(exact Ext.xt)
   (refine hK.out _ _ (fun _=>⟨Ext.cellS hxA c1,HWL.out _ hxA,World.rangeAt_alloc ((World.rangeAt_drew _ _ _ _).2 hrng) _⟩) (fun hS=>?_);clear hK K);have hS:=hS (by decide);(refine qb (i:=15) (by kernel_rfl) rfl (fun K hK=>?_));refine znr rfl _ _ rfl 0 (.slice ra (d1.pend n).length rc) (d1.pend n) rfl ?_ data HD.out _ rfl (heap_alloc_new _ _) ?_ (Nat.zero_le _) ?_
   ·rw[<-HRV.out];exact(HP.out.pend n HN.out).ext hxA
   ·have:=HP.out.long n;omega
   intro v6 w6 k1 k2 k3;rw[<-HRV.out]at k2 k3;obtain⟨hM6,hcB,w7,hrun,hp7,hk7,hr7⟩:=HP.out.storeW HN.out HR.out (by unfold maxLen;omega) (by have:=HP.out.long n;omega) hxA k1 k2 k3;have q1:w6.cell? ⟨g,1,none⟩=some (.map (some gm)):=by rw[World.cell?_of_block (hcB g (.inr rfl) HP.out.glt)];exact c1
   have q3:w6.rangeAt gd od (bvs data):=fun j u hu=>by rw[World.cell?_of_block (hcB gd (.inl (HVB.out gd rfl)) hgd)];exact hrng j u hu
   have HP7:=hid hp7;have HK7:=hid hk7;have HR7:=hid hr7;clear hp7 hk7 hr7 hcB k1 k2 k3;(refine hK.out _ _ (fun _=>⟨q1,?_,q3⟩) (fun hS=>?_);clear hK K)
   ·have:=hM6.look Tryz.underlying63 (ze9 _) (x:=n) HN.out;rw[show (m n).getD (.slice none 0 0)=_ from HRV.out]at this;exact this
   clear q1 q3 hS hM6;(refine qb (i:=16) (by kernel_rfl) rfl (fun K hK=>?_));go_simp;(refine hK.out _ _ (fun h=>absurd rfl h) (fun _=>?_);clear hK K;refine js (by kernel_rfl) ?_ _);refine NoPanic.normal ?_;clear hrun c1 hxA;go_wp2_with fail;go_ret;refine⟨by rw[HW2.out];rfl,rolW ρ v6 n,?_,?_,?_⟩
   ·rw[HW2.out,<-HPD.out];exact⟨_,gm,_,HP7.out⟩
   ·refine(HK1.out.mono fun j hj _ e=>?_).trans HK7.out;rw[e,HRG.out]at hj;simp at hj
   ·intro k hk;rcases HR7.out k hk with h|h
    ·exact .inl h
    ·right;have:=HK1.out.size;omega
  ·have HW2:=hid (show zy d n data=opF d n 0 by rw[HW.out,if_neg hx]);generalize opF d n 0=X at hd1 hx HW2 ⊢;obtain⟨x1,d1⟩:=X;dsimp only at hx hd1;have HD1:=hid hd1;have HK1:=hid hk1;clear hd1 hk1 HW hsm1 hsm2;go_wp2_with fail;go_ret;refine⟨by rw[HW2.out];rfl,ρ,by rw[HW2.out];exact HD1.out.mono (by omega),HK1.out.mono fun j hj _ e=>?_,fun k h=>.inl h⟩;rw[e,HRG.out]at hj;simp at hj
 ·have HW:=hid (show zy d n data=opF d n 21 by
   unfold zy;rw[if_neg hd];exact if_neg fun e=>by have:=(zgw e).1;omega)
  have hx : ¬ (opF d n 21).1=0:=fun e=>by have:=(zgw e).1;omega
  have h1:((data.length:Int) != 512)=true:=by simp;omega
  go_enter Tryz.func122,Tryz.ntmps122;go_wp2_with fail;refine(zaz w g ρ N d H.out hN n 21 HN.out (by omega)).mono ?_;rintro e w1 ⟨rfl,hd1,hk1⟩;generalize opF d n 21=X at hd1 hx HW ⊢;obtain⟨x1,d1⟩:=X;dsimp only at hx hd1;have HD1:=hid hd1;have HK1:=hid hk1;clear hd1 hk1;go_wp2_with fail;go_ret;refine⟨by rw[HW.out];rfl,ρ,by rw[HW.out];exact HD1.out.mono (by omega),HK1.out.mono fun j hj _ e=>?_,fun k h=>.inl h⟩;rw[e,HRG.out]at hj;simp at hj
open Go.RowKit Go.Maps
theorem zi2 {P:Program}{w:World}{ops:Array Oper}{rest:List Oper}{a:Act}{Q:Exit->Act->World->Prop}{dst:Option Tmp}{ty:TypeId}{x:Operand}{pos:String}{after:Array Edge}{gd:Option (Nat × Bool)}
  (h:wpList P ops Q ({ dst:=dst,op:=.load 85 x,type:=ty,pos:=pos,after:=after,guard:=gd } :: rest) a w):wpList P ops Q ({ dst:=dst,op:=.load 85 x,type:=ty,pos:=pos,after:=after,guard:=gd } :: rest) a w:=h
theorem zha {P:Program}{w:World}{ops:Array Oper}{rest:List Oper}{a:Act}{Q:Exit->Act->World->Prop}{dst:Option Tmp}{ty:TypeId}{x y:Operand}{pos:String}{after:Array Edge}{gd:Option (Nat × Bool)}
  (h:wpList P ops Q ({ dst:=dst,op:=.store 85 x y,type:=ty,pos:=pos,after:=after,guard:=gd } :: rest) a w):wpList P ops Q ({ dst:=dst,op:=.store 85 x y,type:=ty,pos:=pos,after:=after,guard:=gd } :: rest) a w:=h
theorem zws (w:World):(zeroValue 85).run Tryz.prog w = .ok zBk w:=(zero_of_info (v:=zBk) (n:=512) (by kernel_rfl)).1 w
theorem OwnS.atBk {w:World}{base:Nat}{S:Nat->Prop}{v:Value}{xs:List Bk}{t:TypeId} (h:OwnS rBk t w base S v xs) (i:Nat) (hi:i<xs.length) :
  ∃ g cap,v = .slice (some ⟨g,0,none⟩) xs.length cap/\g<w.heap.size/\w.rangeAt g (i*512) (bvs xs[i])/\xs[i].length=512:=by
 obtain⟨gs,rfl,h1,h2,h3⟩:=h;rw[List.length_map]at hi;rcases h1.2 with⟨e,h0⟩|⟨g,cap,cur,e,-,hg,hnc,hcm,hcs,htake⟩
 ·omega
 ·have hlen : ∀ p∈gs,p.1.length=512:=fun p hp=>rBk.len (h3 p hp);have hm:=List.getElem_mem hi;obtain⟨hq1,hq2⟩:=h3 gs[i] hm;refine⟨g,cap,by rw[e,List.length_map],(blt hg),fun j u hu=>?_,by rw[List.getElem_map];exact hq2⟩;rw[List.getElem_map,<-hq1]at hu;have hj:j<512:=by have:=(List.getElem?_eq_some_iff.1 hu).1;rw[hlen _ hm]at this;exact this
  rw[cell_of_row _ _ _ _ _ _ hg];have h5:=jv gs 512 hlen i hi j hj;rw[hu,<-htake,List.getElem?_take]at h5;have h6:i*512+j<gs.length*rBk.size:=by
   show _<gs.length*512;have:(i+1)*512<=gs.length*512:=Nat.mul_le_mul_right _ hi;omega
  rw[if_pos h6]at h5;simpa using h5
def curF (d:Dv) (n:Int):Bk:=((d.pend n).getLast?).getD (d.safe.getD n.toNat zb)
def zx4 (w:World) (g:Nat) (ρ:Nat->Option DRol) (N:Nat) (X:Int × Dv) (b:Bk) (e:Ending) (w':World):Prop:=
 (X.1≠0/\e = .returned (.tuple #[.slice none 0 0,.int .i64 X.1])\/X.1=0/\b.length=512/\∃ k,e = .returned (.tuple #[.slice (some ⟨k,0,none⟩) 512 512,.int .i64 0])/\w.heap.size<=k/\w'.heap[k]? = some (.cells (bvs b).toArray 85 (0,0)))/\
 DvAt w' g ρ N X.2/\Keep (fun k=>k≠g) w w'
theorem zld (w:World) (g:Nat) (ρ:Nat->Option DRol) (N:Nat) (d:Dv) (h:DvAt w g ρ N d) (hN:N<=1000000000) (n:Int) (hn : -9223372036854775808<=n/\n<=9223372036854775807) :
  Calls Tryz.prog 108 #[.pointer (some ⟨g,0,none⟩),.int .i64 n] w (zx4 w g ρ (N+1) (opF d n 0) (curF d n)):=by
 have HN:=hid hn;have H:=hid h;clear h hn;go_enter Tryz.func108,Tryz.ntmps108;go_wp2_with fail;refine(zaz w g ρ N d H.out hN n 0 HN.out (by omega)).mono ?_;rintro e w1 ⟨rfl,hd1,hk1⟩;obtain⟨hsm1,hsm2⟩:=zf8 d n 0;by_cases hx:(opF d n 0).1=0
 ·obtain⟨-,hr1,hr2⟩:=zgw hx;obtain⟨k,rfl⟩ : ∃ k:Nat,n=(k:Int):=⟨n.toNat,by omega⟩
  have HX:=hid hx;rw[hx];have hcur:curF d k=curF (opF d k 0).2 k:=by unfold curF;rw[hsm1,hsm2]
  generalize hX:opF d k 0=X at HX hd1 hsm1 hsm2 hcur;obtain⟨x1,d1⟩:=X;have HXX:=hid hX;have HCUR:=hid hcur;clear hX hcur;dsimp only at HX hd1 hsm1 hsm2;have HD1:=hid hd1;obtain⟨vs,gm,m,hp⟩:=hd1;have hk:k<d1.safe.length:=by rw[hsm1];omega
  obtain⟨gs,sc,e,hgs,hra,hbl⟩:=hp.safe.atBk k hk;subst e;have c0:=hp.c0;have c1:=hp.c1;have HP:=hid hp;have HK1:=hid hk1;obtain⟨pa,pc,hpv⟩:=(hp.pend k HN.out).slice;have hlk : ∀ w',Ext w1 w'->(Instr.lookup 63 (.map (some gm)) (.int .i64 k) false).run Tryz.prog w' = .ok (.slice pa (d1.pend k).length pc) w':=fun w' hw=>by
   have:=(hp.ext hw).map.look Tryz.underlying63 (ze9 _) (x:=(k:Int)) HN.out;rw[show (m k).getD (.slice none 0 0)=_ from hpv]at this;exact this
  have hzb:=zws;have HRA:=hid hra;have HBL:=hid hbl;have HPV:=hid hpv;obtain⟨W1,hW1⟩ : ∃ W1,W1=w1.alloc (.cells (bvs d1.safe[k]).toArray 85):=⟨_,rfl⟩
  have hx1:Ext w1 W1:=by rw[hW1];exact(Ext.refl _).alloc _
  have hlk1:=hlk W1 hx1;have c1':W1.cell? ⟨g,1,none⟩=some (.map (some gm)):=Ext.cellS hx1 c1;have hrow:W1.heap[w1.heap.size]? = some (.cells (bvs d1.safe[k]).toArray 85 (0,0)):=by rw[hW1];exact heap_alloc_new _ _
  have HROW:=hid hrow;have HX1:=hid hx1;have HW1:=hid hW1;have H1:=hid (show ∀ W,DvAt W g ρ (N+1) d1->Keep (fun k=>k≠g) w1 W->DvAt W g ρ (N+1) d1/\Keep (fun k=>k≠g) w W from fun W h h'=>⟨h,HK1.out.trans h'⟩);clear hra hbl hk1 hx hsm1 hsm2 hlk hpv hrow hx1 hW1;by_cases hpe:d1.pend k=[]
  ·have HC:=hid (show curF d1 k=d1.safe[k] by
    unfold curF;rw[hpe,List.getLast?_nil,Option.getD_none,List.getD_eq_getElem?_getD,Int.toNat_natCast,List.getElem?_eq_getElem hk];rfl)
   rw[hpe,List.length_nil]at hlk1;have HPE:=hid hpe;clear hp hpe;go_wp2_with (first|((with_reducible refine zi2 ?_);go_must (refine wpList_load_mid rfl 85 _ rfl gs (k*512) rfl (bvs d1.safe[k]) _ HRA.out Tryz.underlying85 rfl (by rw[jt];simp[bvs,HBL.out]) ?_))|((with_reducible refine zha ?_);go_must (refine wpList_store_row rfl 85 _ _ rfl w1.heap.size (bvs d1.safe[k]).toArray rfl rfl 85 zBk.cells (heap_alloc_new _ _) (by rw[jt];simp[bvs,HBL.out]) (by simp[bvs,HBL.out,zBk,Value.cells]) (all_oneCell_toArray (qh _)) ?_;rw[World.setRow_alloc_new,<-HW1.out])))
   refine bodyPost_ret (v:=.tuple #[.slice (some ⟨w1.heap.size,0,none⟩) 512 512,.int .i64 0]) (by simp[results,Tryz.results108,go_sem]) rfl ?_;have hd2:=H1.out _ (HD1.out.ext HX1.out) (Ext.keep HX1.out _);refine⟨.inr ⟨by rw[HXX.out];exact HX.out,by rw[HCUR.out,HC.out];exact HBL.out,w1.heap.size,rfl,HK1.out.size,by rw[HCUR.out,HC.out];exact HROW.out⟩,by rw[HXX.out];exact hd2⟩
  ·obtain⟨q,hq⟩ : ∃ q,(d1.pend k).length=q+1:=⟨(d1.pend k).length-1,by have:=List.length_pos_iff.2 hpe;omega⟩
   obtain⟨gp,pc',e,hgp,hpr,hpl⟩:=((hp.ext HX1.out).pend k HN.out).atBk q (by omega);rw[HPV.out]at e;simp only[Value.slice.injEq]at e;obtain⟨rfl,-,rfl⟩:=e;have HC:=hid (show curF d1 k=(d1.pend k)[q] by
    unfold curF;rw[List.getLast?_eq_getElem?,show (d1.pend k).length-1=q by omega,List.getElem?_eq_getElem (by omega)];rfl)
   rw[hq]at hlk1;have hq2:q<=1000000001:=by have:=hp.long k;omega
   have HPR:=hid hpr;have HPL:=hid hpl;have HPE:=hid hpe;have HQ:=hid hq;generalize hpq:(d1.pend k)[q]=B at HPR HPL HC;clear hp hpe hpr hpl hq hpq;go_wp2_with (first|((with_reducible refine zi2 ?_);go_must (first|(refine wpList_load_mid rfl 85 _ rfl gs (k*512) rfl (bvs d1.safe[k]) _ HRA.out Tryz.underlying85 rfl (by rw[jt];simp[bvs,HBL.out]) ?_)|(refine wpList_load_mid rfl 85 _ rfl gp (q*512) rfl (bvs B) _ HPR.out Tryz.underlying85 rfl (by rw[jt];simp[bvs,HPL.out]) ?_)))|((with_reducible refine zha ?_);go_must (first|(refine wpList_store_row rfl 85 _ _ rfl w1.heap.size (bvs d1.safe[k]).toArray rfl rfl 85 zBk.cells (heap_alloc_new _ _) (by rw[jt];simp[bvs,HBL.out]) (by simp[bvs,HBL.out,zBk,Value.cells]) (all_oneCell_toArray (qh _)) ?_;rw[World.setRow_alloc_new,<-HW1.out])|(refine wpList_store_row rfl 85 _ _ rfl w1.heap.size (bvs B).toArray rfl rfl 85 (bvs d1.safe[k]).toArray HROW.out (by rw[jt];simp[bvs,HPL.out]) (by simp[bvs,HBL.out,HPL.out]) (all_oneCell_toArray (qh _)) ?_;rw[HW1.out,World.setRow_alloc_new]))))
   refine bodyPost_ret (v:=.tuple #[.slice (some ⟨w1.heap.size,0,none⟩) 512 512,.int .i64 0]) (by simp[results,Tryz.results108,go_sem]) rfl ?_;have hd2:=H1.out _ (HD1.out.ext (show Ext w1 (w1.alloc (.cells (bvs B).toArray 85)) by(exact Ext.xt))) (Ext.keep (show Ext w1 (w1.alloc (.cells (bvs B).toArray 85)) by(exact Ext.xt)) _);refine⟨.inr ⟨by rw[HXX.out];exact HX.out,by rw[HCUR.out,HC.out];exact HPL.out,w1.heap.size,rfl,HK1.out.size,by rw[HCUR.out,HC.out];exact heap_alloc_new _ _⟩,by rw[HXX.out];exact hd2⟩
 ·generalize hX:opF d n 0=X at hd1 hx;obtain⟨x1,d1⟩:=X;have HXX:=hid hX;clear hX;dsimp only at hx hd1;have HD1:=hid hd1;have HK1:=hid hk1;have HX:=hid hx;clear hd1 hk1 hsm1 hsm2;go_wp2_with fail;refine bodyPost_ret (v:=.tuple #[.slice none 0 0,.int .i64 x1]) (by simp[results,Tryz.results108,go_sem]) rfl ?_;exact⟨.inl ⟨by rw[HXX.out];exact HX.out,by rw[HXX.out]⟩,by rw[HXX.out];exact HD1.out,HK1.out⟩
end
end Go.Proofs.YtnadlnmclameiaaGreatDoor
