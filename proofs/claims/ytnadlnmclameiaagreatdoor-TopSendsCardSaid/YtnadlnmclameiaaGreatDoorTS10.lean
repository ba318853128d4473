/- part 10 -/
import Derived.Test.YtnadlnmclameiaaGreatDoorTS09
import Derived.IntWalk
import Derived.Deep.DeepCutAuto
set_option maxRecDepth 100000
set_option maxHeartbeats 8000000
set_option linter.all false
namespace Go.Proofs.YtnadlnmclameiaaGreatDoor
section
open Go.RowKit Go.Maps
structure Sl where
 ok:Bool
 count:Int
 data:List UInt8
def sl0:Sl:=⟨false,0,[]⟩
def slF (b:List UInt8):Sl:=
 if (zj b).e≠0\/(zj b).kind≠115 then sl0 else ⟨decide ((zi (zj b).data).2.2=0),wrap64 ((zi (zj b).data).1:Int),(zj b).data.drop (zi (zj b).data).2.1⟩
def yd (d:Dv) (at_:Int):Int:=if at_<0\/(d.safe.length:Int)-1<=at_ then 20 else 0
theorem zhx (w:World) (n:Int):Calls Tryz.prog 149 #[.pointer none,.int .i64 n] w fun e w'=>e = .returned (.int .i64 1)/\w=w':=by
 go_enter Tryz.func149,Tryz.ntmps149;go_wp2_with fail;go_ret;exact⟨rfl,rfl⟩
theorem zee (w:World) (g:Nat) (ρ:Nat->Option DRol) (N:Nat) (d:Dv) (h:DvAt w g ρ N d) (n:Int) (hn : -9223372036854775808<=n/\n<=9223372036854775807) :
  Calls Tryz.prog 149 #[.pointer (some ⟨g,0,none⟩),.int .i64 n] w fun e w'=>e = .returned (.int .i64 (yd d n))/\w=w':=by
 obtain⟨hn1,hn2⟩:=hn;have hsz:64<=d.safe.length/\d.safe.length<=512:=by obtain⟨_,_,_,h⟩:=h;exact h.size
 obtain⟨hs1,hs2⟩:=hsz;have H:=hid h;clear h;have hwr:IntKind.i64.wrap ((d.safe.length:Int)-1)=(d.safe.length:Int)-1:=by rw[IntKind.wrap_i64];omega
 by_cases h1:n<0
 ·have HW:=hid (show yd d n=20 by unfold yd;rw[if_pos (.inl h1)]);go_enter Tryz.func149,Tryz.ntmps149;go_wp2_with fail;go_ret;exact⟨by rw[HW.out];rfl,rfl⟩
 ·by_cases h2:(d.safe.length:Int)-1<=n
  ·have HW:=hid (show yd d n=20 by unfold yd;rw[if_pos (.inr h2)]);go_enter Tryz.func149,Tryz.ntmps149;go_wp2_with (go_at_call 104;go_must (refine(zbv H.out).mono ?_;rintro e w1 ⟨rfl,rfl⟩))
   go_ret;exact⟨by rw[HW.out];rfl,rfl⟩
  ·have HW:=hid (show yd d n=0 by unfold yd;rw[if_neg (by omega)]);go_enter Tryz.func149,Tryz.ntmps149;go_wp2_with (go_at_call 104;go_must (refine(zbv H.out).mono ?_;rintro e w1 ⟨rfl,rfl⟩))
   go_ret;exact⟨by rw[HW.out];rfl,rfl⟩
theorem zaq {w:World}{k:Nat}{b:List UInt8}{t:TypeId}{fr:Nat × Nat} (h:w.heap[k]? = some (.cells (bvs b).toArray t fr)) (n:Nat) (hn:n=b.length) (hm:n<=9223372036854775807):RdB w (.slice (some ⟨k,0,none⟩) n n) b:=by
 subst hn;refine⟨_,_,rfl,Nat.le_refl _,by unfold maxLen;omega,by simp[bvs],fun _=>⟨k,0,rfl,(blt h),fun j hj=>?_⟩⟩;rw[cell_of_row _ _ _ _ _ _ h];simp
def zug (w:World) (g:Nat) (ρ:Nat->Option DRol) (N:Nat) (d:Dv) (n:Int) (e:Ending) (w':World):Prop:=
 ∃ (s:Sl) (v:Value),s=(if (opF d n 0).1=0 then slF (curF d n) else sl0)/\e = .returned (.tuple #[.agg #[.bool s.ok,.int .i64 s.count,v],.int .i64 (opF d n 0).1])/\RdB w' v s.data/\(∀ k,v.ownBlock=some k->w.heap.size<=k)/\DvAt w' g ρ N (opF d n 0).2/\Keep (fun k=>k≠g) w w'
theorem zcm {w:World}{g:Nat}{a b c v0 v1 v2:Value}{t:TypeId} (h:w.heap[g]? = some (.cells #[a,b,c] t (0,0))) :
  ((((w.setCell ⟨g,0,none⟩ v0).setCell ⟨g,1,none⟩ v1).setCell ⟨g,2,none⟩ v2).cell? ⟨g,0,none⟩=some v0)/\
  ((((w.setCell ⟨g,0,none⟩ v0).setCell ⟨g,1,none⟩ v1).setCell ⟨g,2,none⟩ v2).cell? ⟨g,1,none⟩=some v1)/\
  ((((w.setCell ⟨g,0,none⟩ v0).setCell ⟨g,1,none⟩ v1).setCell ⟨g,2,none⟩ v2).cell? ⟨g,2,none⟩=some v2):=by
 have hr:=zw (o:=2) (zw (o:=1) (zw (o:=0) h v0) v1) v2;exact⟨(cr _ hr),(cr _ hr),(cr _ hr)⟩
theorem DvAt.rlt {w:World}{g:Nat}{ρ:Nat->Option DRol}{N:Nat}{d:Dv} (h:DvAt w g ρ N d) (k:Nat) (hk:ρ k≠none):k<w.heap.size:=by obtain⟨_,_,_,h⟩:=h;exact h.lt k hk
theorem zco {w wz:World}{g gR:Nat}{ρ:Nat->Option DRol}{N:Nat}{d:Dv}{n:Int}{s:Sl}{v:Value} (hs:s=(if (opF d n 0).1=0 then slF (curF d n) else sl0)) (hrl : ∀ k,ρ k≠none->k<w.heap.size) (hgR:gR=w.heap.size)
  (hd:DvAt wz g ρ N (opF d n 0).2) (hk:Keep (fun k=>k≠g) w wz) (hv:RdB wz v s.data) (hvb : ∀ k,v.ownBlock=some k->w.heap.size<k) (x0 x1:Value) :
  zug w g ρ N d n (.returned (.tuple #[.agg #[.bool s.ok,.int .i64 s.count,v],.int .i64 (opF d n 0).1])) (((wz.setCell ⟨gR,0,none⟩ x0).setCell ⟨gR,1,none⟩ x1).setCell ⟨gR,2,none⟩ v):=by
 have hk3:Keep (fun k=>k≠gR) wz (((wz.setCell ⟨gR,0,none⟩ x0).setCell ⟨gR,1,none⟩ x1).setCell ⟨gR,2,none⟩ v):=
  (((Keep.refl _ _).setCell (by simp) _).setCell (by simp) _).setCell (by simp) _
 refine⟨s,v,hs,rfl,?_,fun k hk=>Nat.le_of_lt (hvb k hk),hd.keep (hk3.mono fun k hk _ e=>?_),?_⟩
 ·exact Rd.carry hv hk3.size fun k hk _=>hk3.block k (fun e=>by have:=hvb k hk;omega) (by assumption)
 ·have:=hrl k hk;omega
 ·have h1:Keep (fun k=>k≠g/\k≠gR) w wz:=hk.mono fun k hk _=>hk.1;exact(h1.trans (hk3.mono fun k hk _=>hk.2)).mono fun k hk hl=>⟨hk,by omega⟩
theorem zh7 (w:World) (g:Nat) (ρ:Nat->Option DRol) (N:Nat) (d:Dv) (h:DvAt w g ρ N d) (hN:N<=1000000000) (n:Int) (hn : -9223372036854775808<=n/\n<=9223372036854775807) :
  Calls Tryz.prog 182 #[.pointer (some ⟨g,0,none⟩),.int .i64 n] w (zug w g ρ (N+1) d n):=by
 have hgw:g<w.heap.size:=by obtain⟨_,_,_,h⟩:=h;exact h.glt
 have HRL:=hid (fun k (hk:ρ k≠none)=>h.rlt k hk);have H:=hid h;have HN:=hid hn;clear h hn;go_enter Tryz.func182,Tryz.ntmps182;go_wp2_with fail;obtain⟨wa,hwa⟩ : ∃ wa,wa=w.alloc (.cells #[.bool false,.int .i64 0,.slice none 0 0] 249):=⟨_,rfl⟩
 have hxa:Ext w wa:=by rw[hwa];exact(Ext.refl w).alloc _
 have hra:wa.heap[w.heap.size]? = some (.cells #[.bool false,.int .i64 0,.slice none 0 0] 249 (0,0)):=by rw[hwa];exact heap_alloc_new _ _
 rw[<-hwa];obtain⟨gR,hgR⟩ : ∃ gR,gR=w.heap.size:=⟨_,rfl⟩
 rw[<-hgR]at hra ⊢;have hgRg : ¬ gR=g:=by omega
 have hgRa:gR<wa.heap.size:=(blt hra)
 have hga:w.heap.size<wa.heap.size:=by omega
 clear hwa;refine(zld wa g ρ N d (H.out.ext hxa) hN n HN.out).mono ?_;rintro e w1 ⟨hcase,hd1,hk1⟩;have hr1:=(hk1.block gR hgRg hgRa).trans hra;have HX:=hid hxa;have HD1:=hid hd1;have HK1:=hid hk1;have HGR:=hid hgR;have hs1:=hk1.size;clear hxa hd1 hk1 hra hgR;rcases hcase with⟨hx,rfl⟩|⟨hx,hbl,k,rfl,hk,hrow1⟩
 ·have HS:=hid (show sl0=(if (opF d n 0).1=0 then slF (curF d n) else sl0) by rw[if_neg hx]);generalize hX:opF d n 0=X at hx;have HXX:=hid hX;obtain⟨x1,d1⟩:=X;clear hX;dsimp only at hx;have y0:=zg hr1 0;have y1:=zg hr1 1;have y2:=zg hr1 2;have z0:w1.cell? ⟨gR,0,none⟩=some (.bool false):=(cr _ hr1)
  have z1:w1.cell? ⟨gR,1,none⟩=some (.int .i64 0):=(cr _ hr1)
  have z2:w1.cell? ⟨gR,2,none⟩=some (.slice none 0 0):=(cr _ hr1)
  have HR1:=hid hr1;clear hr1;go_wp2_with fail;obtain⟨q0,q1,q2⟩:=zcm (v0:=.bool false) (v1:=.int .i64 0) (v2:=.slice none 0 0) HR1.out;have hR:=HD1.out;refine bodyPost_ret (v:=.tuple #[.agg #[.bool false,.int .i64 0,.slice none 0 0],.int .i64 x1]) (by simp[results,Tryz.results182,go_sem,q0,q1,q2]) rfl ?_;have hf:=zco (s:=sl0) (v:=.slice none 0 0) (x0:=.bool false) (x1:=.int .i64 0) HS.out HRL.out HGR.out HD1.out ((HX.out.keep _).trans HK1.out) (RdB.nil _) (by simp[Value.ownBlock]);rw[HXX.out]at hf;exact hf
 ·have hbk:=hid (show (if (opF d n 0).1=0 then slF (curF d n) else sl0)=slF (curF d n) by rw[if_pos hx]);have HX0:=hid hx;generalize hB:curF d n=B at hbl hrow1 hbk;have hrd:=zaq hrow1 512 hbl.symm (by omega);have hfe:=(zbf w1 _ B hrd (by omega))
  have HB:=hid hB;have hkw:=hk;have HBK:=hbk;have HR1:=hid hr1;clear hrow1 hrd hbl hB hx hr1 hbk;go_wp2_with fail;refine hfe.mono ?_;clear hfe;rintro e w2 ⟨dv,rfl,ho,hb⟩;obtain⟨da,dc,rfl⟩:=ho.slice;have hx2:=Ext.of hb;generalize hf:zj B=f at ho;have HF:=hid hf;have hrd2:=zk ho;have HO:=hid ho;have hdb : ∀ k,(Value.slice da f.data.length dc).ownBlock=some k->w.heap.size<k:=fun k hk=>by
   have h1:=(World.ownsRow.lt ho k hk).1;have:=HK1.out.size;omega
  have HDB:=hid hdb;have HX2:=hid hx2;have hr2:=(Below.block hx2 gR (by omega)).trans HR1.out;obtain⟨wF,hwF⟩ : ∃ wF,wF=w2.alloc (.cells #[.int .u8 ((f.kind.toNat:Nat):Int),.slice da f.data.length dc] 80):=⟨_,rfl⟩
  have hx3:Ext w2 wF:=by rw[hwF];exact(Ext.refl _).alloc _
  have hrF:wF.heap[w2.heap.size]? = some (.cells #[.int .u8 ((f.kind.toNat:Nat):Int),.slice da f.data.length dc] 80 (0,0)):=by rw[hwF];exact heap_alloc_new _ _
  have b0:wF.cell? ⟨w2.heap.size,0,none⟩=some (.int .u8 ((f.kind.toNat:Nat):Int)):=(cr _ hrF)
  have b1:wF.cell? ⟨w2.heap.size,1,none⟩=some (.slice da f.data.length dc):=(cr _ hrF)
  have hr3:=(Below.block hx3 gR (by have:=hx2.size;omega)).trans hr2;have y0:=zg hr3 0;have y1:=zg hr3 1;have y2:=zg hr3 2;have z0:wF.cell? ⟨gR,0,none⟩=some (.bool false):=(cr _ hr3)
  have z1:wF.cell? ⟨gR,1,none⟩=some (.int .i64 0):=(cr _ hr3)
  have z2:wF.cell? ⟨gR,2,none⟩=some (.slice none 0 0):=(cr _ hr3)
  have HR3:=hid hr3;have HX3:=hid hx3;have HRD:=hid (RdB.ext hrd2 hx3);clear hf ho hb hx2 hdb hr2 hrF hr3 hx3 hrd2;have b0':(w2.alloc (.cells #[.int .u8 ((f.kind.toNat:Nat):Int),.slice da f.data.length dc] 80)).cell? ⟨w2.heap.size,0,none⟩=some (.int .u8 ((f.kind.toNat:Nat):Int)):=by rw[<-hwF];exact b0
  go_upto_region 5 with fail;rw[<-hwF];clear hwF b0';have hSF:=hid (show (if (opF d n 0).1=0 then slF (curF d n) else sl0)=slF B by rw[HB.out];exact HBK.out);obtain⟨gF,hgF⟩ : ∃ gF,gF=w2.heap.size:=⟨_,rfl⟩
  rw[<-hgF]at b0 b1 ⊢;have hgFR : ¬ gF=gR:=by have:=HX2.out.size;omega
  have hgFR' : ¬ gR=gF:=fun e=>hgFR e.symm;clear hgF;by_cases hE:f.e=0
  ·by_cases hK:f.kind=115
   ·have hEi:(f.e:Int)=0:=by omega
    have hKi:((f.kind.toNat:Nat):Int)=115:=by rw[hK];rfl
    obtain⟨hu1,hu2,hu3,hu4⟩:=yh f.data;have hui:=yv wF _ f.data HRD.out;have hS:=hid (show slF B=⟨decide ((zi f.data).2.2=0),wrap64 ((zi f.data).1:Int),f.data.drop (zi f.data).2.1⟩ by
     unfold slF;rw[HF.out,if_neg (by rw[hE,hK];simp)])
    clear hu4 hu2 hE hK;generalize zi f.data=U at hu1 hu3 hui hS;obtain⟨u,uk,ue⟩:=U;dsimp only at hu1 hu3 hui hS;have HU:=hid hui;clear hui;go_wp2_with fail;refine HU.out.mono ?_;rintro e w5 ⟨rfl,rfl⟩;have hdr:=RdB.drop HRD.out uk hu3;have HDR:=hid hdr;clear hdr;go_wp2_with ((with_reducible refine yo ?_);go_must (refine yf rfl rfl Tryz.underlying33 qe rfl rfl uk rfl ?_ ?_;omega))
    have HEQ:=hid (show decide (ue=0)=((ue:Int) == 0) by rw[Bool.eq_iff_iff];simp);obtain⟨q0,q1,q2⟩:=zcm (v0:=.bool ((ue:Int) == 0)) (v1:=.int .i64 (wrap64 (u:Int))) (v2:=(.slice (yq da dc uk 1) (f.data.length-uk) (dc-uk))) HR3.out;refine bodyPost_ret (v:=.tuple #[.agg #[.bool ((ue:Int) == 0),.int .i64 (wrap64 (u:Int)),(.slice (yq da dc uk 1) (f.data.length-uk) (dc-uk))],.int .i64 0]) (by simp[results,Tryz.results182,go_sem,q0,q1,q2]) rfl ?_;have hf:=zco (N:=N+1) (s:=⟨((ue:Int) == 0),wrap64 (u:Int),f.data.drop uk⟩) (v:=(.slice (yq da dc uk 1) (f.data.length-uk) (dc-uk))) (wz:=wF) (x0:=.bool ((ue:Int) == 0)) (x1:=.int .i64 (wrap64 (u:Int))) (by rw[hSF.out,hS.out,HEQ.out]) HRL.out HGR.out (HD1.out.ext (HX2.out.trans HX3.out)) (((HX.out.keep _).trans HK1.out).trans ((HX2.out.trans HX3.out).keep _)) HDR.out (fun j hj=>HDB.out j (by rw[cutAt_block (n':=f.data.length) (m':=dc)]at hj;exact hj));rw[HX0.out]at hf;exact hf
   ·have hEi:(f.e:Int)=0:=by omega
    have hKn : ¬ f.kind.toNat=115:=fun e=>hK (UInt8.toNat_inj.1 e);have hKi:(((f.kind.toNat:Nat):Int) != 115)=true:=by simp;omega
    have hS:=hid (show slF B=sl0 by unfold slF;rw[HF.out,if_pos (.inr hK)]);clear hE hK hKn;go_wp2_with fail;obtain⟨q0,q1,q2⟩:=zcm (v0:=.bool false) (v1:=.int .i64 0) (v2:=(.slice none 0 0)) HR3.out;refine bodyPost_ret (v:=.tuple #[.agg #[.bool false,.int .i64 0,(.slice none 0 0)],.int .i64 0]) (by simp[results,Tryz.results182,go_sem,q0,q1,q2]) rfl ?_;have hf:=zco (N:=N+1) (s:=sl0) (v:=(.slice none 0 0)) (wz:=wF) (x0:=.bool false) (x1:=.int .i64 0) (by rw[hSF.out,hS.out]) HRL.out HGR.out (HD1.out.ext (HX2.out.trans HX3.out)) (((HX.out.keep _).trans HK1.out).trans ((HX2.out.trans HX3.out).keep _)) (RdB.nil _) (by simp[Value.ownBlock]);rw[HX0.out]at hf;exact hf
  ·have hEi:((f.e:Int) != 0)=true:=by simp;omega
   have hS:=hid (show slF B=sl0 by unfold slF;rw[HF.out,if_pos (.inl hE)]);clear hE;go_wp2_with fail;obtain⟨q0,q1,q2⟩:=zcm (v0:=.bool false) (v1:=.int .i64 0) (v2:=(.slice none 0 0)) HR3.out;refine bodyPost_ret (v:=.tuple #[.agg #[.bool false,.int .i64 0,(.slice none 0 0)],.int .i64 0]) (by simp[results,Tryz.results182,go_sem,q0,q1,q2]) rfl ?_;have hf:=zco (N:=N+1) (s:=sl0) (v:=(.slice none 0 0)) (wz:=wF) (x0:=.bool false) (x1:=.int .i64 0) (by rw[hSF.out,hS.out]) HRL.out HGR.out (HD1.out.ext (HX2.out.trans HX3.out)) (((HX.out.keep _).trans HK1.out).trans ((HX2.out.trans HX3.out).keep _)) (RdB.nil _) (by simp[Value.ownBlock]);rw[HX0.out]at hf;exact hf
open Go.RowKit Go.Maps
theorem zem {a b:Bool} (h:a=b):Ending.returned (.bool a) = .returned (.bool b):=by rw[h]
theorem zmz (w:World) (gS gN:Nat) (i:Nat) (hi:i=0\/i=1) (ok:Bool) (h0:w.cell? ⟨gS,i*3,none⟩=some (.bool ok)) (hN:w.cell? ⟨gN,0,none⟩=some (.int .i64 (-1))) :
  Calls Tryz.prog 181 #[.int .i64 i,.pointer (some ⟨gS,0,none⟩),.pointer (some ⟨gN,0,none⟩)] w fun e w'=>e = .returned (.bool ok)/\Ext w w':=by
 cases ok;all_goals
  rcases hi with rfl|rfl;all_goals
   simp only[Nat.zero_mul,Nat.one_mul]at h0;go_enter Tryz.func181,Tryz.ntmps181;go_wp2_with fail;go_region;all_goals
    go_wp2_with fail;go_ret;exact⟨rfl,by(exact Ext.xt)⟩
theorem zvj (w:World) (gS gN:Nat) (ok:Bool) (c0 c1:Int) (h0:w.cell? ⟨gS,3,none⟩=some (.bool ok)) (h1:w.cell? ⟨gS,4,none⟩=some (.int .i64 c1)) (h2:w.cell? ⟨gS,1,none⟩=some (.int .i64 c0)) (hN:w.cell? ⟨gN,0,none⟩=some (.int .i64 0)) :
  Calls Tryz.prog 181 #[.int .i64 1,.pointer (some ⟨gS,0,none⟩),.pointer (some ⟨gN,0,none⟩)] w fun e w'=>e = .returned (.bool (ok && decide (c0<c1)))/\Ext w w':=by
 cases ok
 ·go_enter Tryz.func181,Tryz.ntmps181;go_wp2_with fail;go_region;all_goals
   go_wp2_with fail;go_ret;exact⟨rfl,by(exact Ext.xt)⟩
 ·by_cases hc:c0<c1;all_goals
   have HC:=hid hc;go_enter Tryz.func181,Tryz.ntmps181;go_wp2_with fail;go_region;all_goals
    go_wp2_with fail;go_ret;exact⟨zem (by simp[HC.out]),by(exact Ext.xt)⟩
end
section
open Go.RowKit Go.Maps
theorem zgi (w:World) (o:Obj):(w.alloc o).heap.size=w.heap.size+1:=by simp
structure Bo where
 s0:Sl
 s1:Sl
 newest:Int
 err:Int
 dev:Dv
def zag (s0:Sl):Int:=if s0.ok=true then 0 else -1
def newF (s0 s1:Sl):Int:=if s0.ok=true then (if (s1.ok && decide (s0.count<s1.count))=true then 1 else 0) else if s1.ok=true then 1 else -1
theorem zqe {s0 s1:Sl} (h : ¬ newF s0 s1=1):newF s0 s1=zag s0:=by
 unfold newF zag at*;split at h
 ·rename_i h1
  rw[if_pos h1,if_pos h1];split at h
  ·exact absurd rfl h
  ·rename_i h2;rw[if_neg h2]
 ·rename_i h1
  rw[if_neg h1,if_neg h1];split at h
  ·exact absurd rfl h
  ·rename_i h2;rw[if_neg h2]
def zo (d:Dv) (n:Int):Bo:=
 if (opF d n 0).1≠0 then ⟨sl0,sl0,-1,(opF d n 0).1,(opF d n 0).2⟩
 else if (opF (opF d n 0).2 (n+1) 0).1≠0 then ⟨slF (curF d n),sl0,-1,(opF (opF d n 0).2 (n+1) 0).1,(opF (opF d n 0).2 (n+1) 0).2⟩
 else ⟨slF (curF d n),slF (curF (opF d n 0).2 (n+1)),newF (slF (curF d n)) (slF (curF (opF d n 0).2 (n+1))),0,(opF (opF d n 0).2 (n+1) 0).2⟩
def BoEnd (w:World) (g:Nat) (ρ:Nat->Option DRol) (N:Nat) (X:Bo) (e:Ending) (w':World):Prop:=
 ∃ v0 v1,e = .returned (.tuple #[.agg #[.bool X.s0.ok,.int .i64 X.s0.count,v0,.bool X.s1.ok,.int .i64 X.s1.count,v1],.int .i64 X.newest,.int .i64 X.err])/\RdB w' v0 X.s0.data/\RdB w' v1 X.s1.data/\(∀ k,v0.ownBlock=some k->w.heap.size<=k)/\(∀ k,v1.ownBlock=some k->w.heap.size<=k)/\DvAt w' g ρ N X.dev/\Keep (fun k=>k≠g) w w'
theorem RdB.slice' {w:World}{v:Value}{l:List UInt8} (h:RdB w v l) : ∃ a c,v = .slice a l.length c:=by obtain⟨a,c,e,_⟩:=h;exact⟨a,c,e⟩
structure BoSt (w wr:World) (g:Nat) (ρ:Nat->Option DRol) (gR gS gN N:Nat) (d:Dv) (s0:Sl) (v0:Value) (s1:Sl) (v1:Value) (nw:Int):Prop where
 rR:wr.heap[gR]? = some (.cells #[.bool false,.int .i64 0,.slice none 0 0,.bool false,.int .i64 0,.slice none 0 0] 250 (0,0))
 rS:wr.heap[gS]? = some (.cells #[.bool s0.ok,.int .i64 s0.count,v0,.bool s1.ok,.int .i64 s1.count,v1] 250 (0,0))
 rN:wr.heap[gN]? = some (.cells #[.int .i64 nw] 3 (0,0))
 r0:RdB wr v0 s0.data
 r1:RdB wr v1 s1.data
 b0 : ∀ k,v0.ownBlock=some k->gN<k
 b1 : ∀ k,v1.ownBlock=some k->gN<k
 dv:DvAt wr g ρ N d
 kp:Keep (fun k=>k≠g/\k<gR) w wr
 rl : ∀ k,ρ k≠none->k<gR
 gg:g<gR
 o1:gS=gR+1
 o2:gN=gR+2
 wR:w.heap.size<=gR
 lt:gR+3<=wr.heap.size
section
variable {w wr w':World}{g:Nat}{ρ:Nat->Option DRol}{gR gS gN N N':Nat}{d d':Dv}{s0 s1 s:Sl}{v0 v1 v:Value}{nw:Int}
theorem BoSt.read (h:BoSt w wr g ρ gR gS gN N d s0 v0 s1 v1 nw) (hk:Keep (fun k=>k≠g) wr w') (hd:DvAt w' g ρ N' d'):BoSt w w' g ρ gR gS gN N' d' s0 v0 s1 v1 nw where
 rR:=(hk.block gR (by have:=h.gg;omega) (by have:=h.lt;omega)).trans h.rR
 rS:=(hk.block gS (by have:=h.gg;have:=h.o1;omega) (by have:=h.lt;have:=h.o1;omega)).trans h.rS
 rN:=(hk.block gN (by have:=h.gg;have:=h.o2;omega) (by have:=h.lt;have:=h.o2;omega)).trans h.rN
 r0:=Rd.carry h.r0 hk.size fun k hb hl=>hk.block k (by have:=h.b0 k hb;have:=h.gg;have:=h.o2;omega) hl
 r1:=Rd.carry h.r1 hk.size fun k hb hl=>hk.block k (by have:=h.b1 k hb;have:=h.gg;have:=h.o2;omega) hl
 b0:=h.b0
 b1:=h.b1
 dv:=hd
 kp:=h.kp.trans (hk.mono fun k hk _=>hk.1)
 rl:=h.rl
 gg:=h.gg
 o1:=h.o1
 o2:=h.o2
 wR:=h.wR
 lt:=Nat.le_trans h.lt hk.size
theorem BoSt.ext (h:BoSt w wr g ρ gR gS gN N d s0 v0 s1 v1 nw) (hx:Ext wr w'):BoSt w w' g ρ gR gS gN N d s0 v0 s1 v1 nw:=h.read (hx.keep _) (h.dv.ext hx)
theorem BoSt.mono (h:BoSt w wr g ρ gR gS gN N d s0 v0 s1 v1 nw) (hn:N<=N'):BoSt w wr g ρ gR gS gN N' d s0 v0 s1 v1 nw:={ h with dv:=h.dv.mono hn }
theorem BoSt.putS (h:BoSt w wr g ρ gR gS gN N d s0 v0 s1 v1 nw) (hk:Keep (fun k=>k≠gS) wr w') {s0' s1':Sl}{v0' v1':Value} (hr:w'.heap[gS]? = some (.cells #[.bool s0'.ok,.int .i64 s0'.count,v0',.bool s1'.ok,.int .i64 s1'.count,v1'] 250 (0,0)))
  (hr0:RdB wr v0' s0'.data) (hr1:RdB wr v1' s1'.data) (hb0 : ∀ k,v0'.ownBlock=some k->gN<k) (hb1 : ∀ k,v1'.ownBlock=some k->gN<k):BoSt w w' g ρ gR gS gN N d s0' v0' s1' v1' nw where
 rR:=(hk.block gR (by have:=h.o1;omega) (by have:=h.lt;omega)).trans h.rR
 rS:=hr
 rN:=(hk.block gN (by have:=h.o1;have:=h.o2;omega) (by have:=h.lt;have:=h.o2;omega)).trans h.rN
 r0:=Rd.carry hr0 hk.size fun k hb hl=>hk.block k (by have:=hb0 k hb;have:=h.o1;have:=h.o2;omega) hl
 r1:=Rd.carry hr1 hk.size fun k hb hl=>hk.block k (by have:=hb1 k hb;have:=h.o1;have:=h.o2;omega) hl
 b0:=hb0
 b1:=hb1
 dv:=h.dv.keep (hk.mono fun k hk _ e=>by have:=h.rl k hk;have:=h.o1;omega)
 kp:=h.kp.trans (hk.mono fun k hk _ e=>by have:=h.o1;omega)
 rl:=h.rl
 gg:=h.gg
 o1:=h.o1
 o2:=h.o2
 wR:=h.wR
 lt:=Nat.le_trans h.lt hk.size
theorem BoSt.putN (h:BoSt w wr g ρ gR gS gN N d s0 v0 s1 v1 nw) (m:Int):BoSt w (wr.setCell ⟨gN,0,none⟩ (.int .i64 m)) g ρ gR gS gN N d s0 v0 s1 v1 m:=by
 have hk:Keep (fun k=>k≠gN) wr (wr.setCell ⟨gN,0,none⟩ (.int .i64 m)):=(Keep.refl _ _).setCell (by simp) _;exact {
  rR:=(hk.block gR (by have:=h.o2;omega) (by have:=h.lt;omega)).trans h.rR
  rS:=(hk.block gS (by have:=h.o1;have:=h.o2;omega) (by have:=h.lt;have:=h.o1;omega)).trans h.rS
  rN:=(zw (o:=0) h.rN (.int .i64 m)).trans rfl
  r0:=Rd.carry h.r0 hk.size fun k hb hl=>hk.block k (by have:=h.b0 k hb;omega) hl
  r1:=Rd.carry h.r1 hk.size fun k hb hl=>hk.block k (by have:=h.b1 k hb;omega) hl
  b0:=h.b0
  b1:=h.b1
  dv:=h.dv.keep (hk.mono fun k hk _ e=>by have:=h.rl k hk;have:=h.o2;omega)
  kp:=h.kp.trans (hk.mono fun k hk _ e=>by have:=h.o2;omega)
  rl:=h.rl
  gg:=h.gg
  o1:=h.o1
  o2:=h.o2
  wR:=h.wR
  lt:=Nat.le_trans h.lt hk.size }
end
def set6 (w:World) (g:Nat) (x0 x1 x2 x3 x4 x5:Value):World:=(((((w.setCell ⟨g,0,none⟩ x0).setCell ⟨g,1,none⟩ x1).setCell ⟨g,2,none⟩ x2).setCell ⟨g,3,none⟩ x3).setCell ⟨g,4,none⟩ x4).setCell ⟨g,5,none⟩ x5
theorem zf3 {w:World}{g:Nat}{y0 y1 y2 y3 y4 y5:Value}{t:TypeId} (h:w.heap[g]? = some (.cells #[y0,y1,y2,y3,y4,y5] t (0,0))) (x0 x1 x2 x3 x4 x5:Value) :
  (set6 w g x0 x1 x2 x3 x4 x5).heap[g]? = some (.cells #[x0,x1,x2,x3,x4,x5] t (0,0)):=
 (zw (o:=5) (zw (o:=4) (zw (o:=3) (zw (o:=2) (zw (o:=1) (zw (o:=0) h x0) x1) x2) x3) x4) x5).trans rfl
theorem zpt (w:World) (g:Nat) (x0 x1 x2 x3 x4 x5:Value):Keep (fun k=>k≠g) w (set6 w g x0 x1 x2 x3 x4 x5):=
 ((((((Keep.refl _ w).setCell (by simp) _).setCell (by simp) _).setCell (by simp) _).setCell (by simp) _).setCell (by simp) _).setCell (by simp) _
theorem row6 {w:World}{g:Nat}{x0 x1 x2 x3 x4 x5:Value}{t:TypeId} (h:w.heap[g]? = some (.cells #[x0,x1,x2,x3,x4,x5] t (0,0))) :
  w.cell? ⟨g,0,none⟩=some x0/\w.cell? ⟨g,1,none⟩=some x1/\w.cell? ⟨g,2,none⟩=some x2/\w.cell? ⟨g,3,none⟩=some x3/\w.cell? ⟨g,4,none⟩=some x4/\w.cell? ⟨g,5,none⟩=some x5:=
 ⟨(cr _ h),(cr _ h),(cr _ h),(cr _ h),(cr _ h),(cr _ h)⟩
theorem BoEnd.ext {w w' w'':World}{g:Nat}{ρ:Nat->Option DRol}{N:Nat}{X:Bo}{e:Ending} (h:BoEnd w g ρ N X e w') (hx:Ext w' w''):BoEnd w g ρ N X e w'':=by
 obtain⟨v0,v1,h1,h2,h3,h4,h5,h6,h7⟩:=h;exact⟨v0,v1,h1,h2.ext hx,h3.ext hx,h4,h5,h6.ext hx,h7.trans (hx.keep _)⟩
theorem zh9 (w:World) (g a b c:Nat) (x0 x1 x2:Value):Keep (fun k=>k≠g) w (((w.setCell ⟨g,a,none⟩ x0).setCell ⟨g,b,none⟩ x1).setCell ⟨g,c,none⟩ x2):=
 (((Keep.refl _ w).setCell (by simp) _).setCell (by simp) _).setCell (by simp) _
theorem zk2 {w wr:World}{g:Nat}{ρ:Nat->Option DRol}{gR gS gN N:Nat}{X:Bo}{v0 v1:Value}{nw:Int} (h:BoSt w wr g ρ gR gS gN N X.dev X.s0 v0 X.s1 v1 nw) (x0 x1 x2 x3 x4 x5:Value) (hw:w.heap.size=gR) :
  BoEnd w g ρ N X (.returned (.tuple #[.agg #[.bool X.s0.ok,.int .i64 X.s0.count,v0,.bool X.s1.ok,.int .i64 X.s1.count,v1],.int .i64 X.newest,.int .i64 X.err])) (set6 wr gR x0 x1 x2 x3 x4 x5):=by
 have hk:=zpt wr gR x0 x1 x2 x3 x4 x5;refine⟨v0,v1,rfl,Rd.carry h.r0 hk.size fun k hb hl=>hk.block k (by have:=h.b0 k hb;have:=h.o2;omega) hl,Rd.carry h.r1 hk.size fun k hb hl=>hk.block k (by have:=h.b1 k hb;have:=h.o2;omega) hl,
  fun k hb=>by have:=h.b0 k hb;have:=h.o2;omega,fun k hb=>by have:=h.b1 k hb;have:=h.o2;omega,h.dv.keep (hk.mono fun k hk _ e=>by have:=h.rl k hk;omega),?_⟩
 exact(h.kp.trans (hk.mono fun k hk _ e=>by omega)).mono fun k hk hl=>⟨hk,by omega⟩
theorem zvi (w:World) (gS gN:Nat) (s0 s1:Sl) (h0:w.cell? ⟨gS,3,none⟩=some (.bool s1.ok)) (h1:w.cell? ⟨gS,4,none⟩=some (.int .i64 s1.count)) (h2:w.cell? ⟨gS,1,none⟩=some (.int .i64 s0.count)) (hN:w.cell? ⟨gN,0,none⟩=some (.int .i64 (zag s0))) :
  Calls Tryz.prog 181 #[.int .i64 1,.pointer (some ⟨gS,0,none⟩),.pointer (some ⟨gN,0,none⟩)] w fun e w'=>e = .returned (.bool (decide (newF s0 s1=1)))/\Ext w w':=by
 cases hs:s0.ok
 ·have e1:zag s0 = -1:=by unfold zag;rw[if_neg (by rw[hs];simp)]
  rw[e1]at hN;refine(zmz w gS gN 1 (.inr rfl) s1.ok (by simpa using h0) hN).mono ?_;rintro e w' ⟨rfl,hx⟩;refine⟨zem ?_,hx⟩;unfold newF;rw[hs,if_neg (by simp)];cases s1.ok <;> simp
 ·have e1:zag s0=0:=by unfold zag;rw[if_pos hs]
  rw[e1]at hN;refine(zvj w gS gN s1.ok s0.count s1.count h0 h1 h2 hN).mono ?_;rintro e w' ⟨rfl,hx⟩;refine⟨zem ?_,hx⟩;unfold newF;rw[if_pos hs];cases hh:(s1.ok && decide (s0.count<s1.count)) <;> simp
theorem zk1 (w:World) (g:Nat) (ρ:Nat->Option DRol) (N:Nat) (d:Dv) (h:DvAt w g ρ N d) (hN:N<=999999999) (n:Int) (hn:0<=n/\n<=1000) :
  Calls Tryz.prog 150 #[.pointer (some ⟨g,0,none⟩),.int .i64 n] w (BoEnd w g ρ (N+2) (zo d n)):=by
 have hgw:g<w.heap.size:=by obtain⟨_,_,_,h⟩:=h;exact h.glt
 have HRL:=hid (fun k (hk:ρ k≠none)=>h.rlt k hk);have H:=hid h;obtain⟨hn1,hn2⟩:=hn;clear h;go_enter Tryz.func150,Tryz.ntmps150;go_wp2_with fail;obtain⟨wl,hwl⟩ : ∃ wl,wl=((w.alloc (.cells #[.bool false,.int .i64 0,.slice none 0 0,.bool false,.int .i64 0,.slice none 0 0] 250)).alloc (.cells #[.bool false,.int .i64 0,.slice none 0 0,.bool false,.int .i64 0,.slice none 0 0] 250)).alloc (.cells #[.int .i64 (-1)] 3):=⟨_,rfl⟩
 rw[<-hwl];have hxl:Ext w wl:=by rw[hwl];(exact Ext.xt)
 have hsl:wl.heap.size=w.heap.size+3:=by rw[hwl];simp
 have hrR:wl.heap[w.heap.size]? = some (.cells #[.bool false,.int .i64 0,.slice none 0 0,.bool false,.int .i64 0,.slice none 0 0] 250 (0,0)):=by
  rw[hwl];exact(Below.block (show Ext (w.alloc (.cells #[.bool false,.int .i64 0,.slice none 0 0,.bool false,.int .i64 0,.slice none 0 0] 250)) _ by(exact Ext.xt)) _ (by simp)).trans (heap_alloc_new _ _)
 have hrS:wl.heap[w.heap.size+1]? = some (.cells #[.bool false,.int .i64 0,.slice none 0 0,.bool false,.int .i64 0,.slice none 0 0] 250 (0,0)):=by
  rw[hwl];refine(Below.block (show Ext ((w.alloc (.cells #[.bool false,.int .i64 0,.slice none 0 0,.bool false,.int .i64 0,.slice none 0 0] 250)).alloc (.cells #[.bool false,.int .i64 0,.slice none 0 0,.bool false,.int .i64 0,.slice none 0 0] 250)) _ by(exact Ext.xt)) _ (by simp)).trans ?_;have:=heap_alloc_new (w.alloc (.cells #[.bool false,.int .i64 0,.slice none 0 0,.bool false,.int .i64 0,.slice none 0 0] 250)) (.cells #[.bool false,.int .i64 0,.slice none 0 0,.bool false,.int .i64 0,.slice none 0 0] 250);rwa [zgi]at this
 have hrN:wl.heap[w.heap.size+1+1]? = some (.cells #[.int .i64 (-1)] 3 (0,0)):=by
  rw[hwl];have:=heap_alloc_new ((w.alloc (.cells #[.bool false,.int .i64 0,.slice none 0 0,.bool false,.int .i64 0,.slice none 0 0] 250)).alloc (.cells #[.bool false,.int .i64 0,.slice none 0 0,.bool false,.int .i64 0,.slice none 0 0] 250)) (.cells #[.int .i64 (-1)] 3);rwa [zgi,zgi]at this
 clear hwl;obtain⟨gR,hgR⟩ : ∃ gR,gR=w.heap.size:=⟨_,rfl⟩
 obtain⟨gS,hgS⟩ : ∃ gS,gS=w.heap.size+1:=⟨_,rfl⟩
 obtain⟨gN,hgN⟩ : ∃ gN,gN=w.heap.size+1+1:=⟨_,rfl⟩
 rw[<-hgN]at hrN ⊢;rw[<-hgS]at hrS ⊢;rw[<-hgR]at hrR ⊢;have hgl : ∀ k,ρ k≠none->k<gR:=fun k hk=>by rw[hgR];exact HRL.out k hk
 have hwR:w.heap.size<=gR:=by omega
 have hwS:gS=gR+1:=by omega
 have hwN:gN=gR+2:=by omega
 have hlS:wl.heap.size=gR+3:=by omega
 have hgg:g<gR:=by omega
 have HST:=hid (show BoSt w wl g ρ gR gS gN N d sl0 (.slice none 0 0) sl0 (.slice none 0 0) (-1) from⟨hrR,hrS,hrN,RdB.nil _,RdB.nil _,by simp[Value.ownBlock],by simp[Value.ownBlock],H.out.ext hxl,hxl.keep _,hgl,hgg,hwS,hwN,hwR,by omega⟩);have HGR:=hid hgR;clear hxl hgR hgS hgN hsl hgl hrR hrS hrN hlS HRL hwS hwN hwR;have HE0:=hid (fun (h:(opF d n 0).1≠0)=>(show zo d n=⟨sl0,sl0,-1,(opF d n 0).1,(opF d n 0).2⟩ by unfold zo;rw[if_pos h]));have HE1:=hid (fun (h:(opF d n 0).1=0) (h':(opF (opF d n 0).2 (n+1) 0).1≠0)=>(show zo d n=⟨slF (curF d n),sl0,-1,(opF (opF d n 0).2 (n+1) 0).1,(opF (opF d n 0).2 (n+1) 0).2⟩ by unfold zo;rw[if_neg (by simpa using h),if_pos h']));have HE2:=hid (fun (h:(opF d n 0).1=0) (h':(opF (opF d n 0).2 (n+1) 0).1=0)=>(show zo d n=⟨slF (curF d n),slF (curF (opF d n 0).2 (n+1)),newF (slF (curF d n)) (slF (curF (opF d n 0).2 (n+1))),0,(opF (opF d n 0).2 (n+1) 0).2⟩ by unfold zo;rw[if_neg (by simpa using h),if_neg (by simpa using h')]));generalize hX0:opF d n 0=X0 at HE0 HE1 HE2;generalize hX1:opF X0.2 (n+1) 0=X1 at HE1 HE2;generalize hA0:slF (curF d n)=A0 at HE1 HE2;generalize hA1:slF (curF X0.2 (n+1))=A1 at HE2;have HX0:=hid hX0;have HX1:=hid hX1;have HA0:=hid hA0;have HA1:=hid hA1;clear hX0 hX1 hA0 hA1;obtain⟨x0,d0⟩:=X0;obtain⟨x1,d1⟩:=X1;dsimp only at HE0 HE1 HE2 HX1 HA1;go_loopw [14] (fun u14 wr=>u14 = .int .i64 0/\BoSt w wr g ρ gR gS gN N d sl0 (.slice none 0 0) sl0 (.slice none 0 0) (-1)\/
   u14 = .int .i64 1/\x0=0/\(∃ v0,BoSt w wr g ρ gR gS gN (N+1) d0 A0 v0 sl0 (.slice none 0 0) (zag A0))\/
   u14 = .int .i64 2/\x0=0/\x1=0/\∃ v0 v1,BoSt w wr g ρ gR gS gN (N+2) d1 A0 v0 A1 v1 (newF A0 A1))
  (fun u14 _=>2-(intOf u14).toNat)
 case atStart=>exact .inl ⟨rfl,HST.out⟩
 case round=>
  rcases hrel with⟨rfl,hst⟩|⟨rfl,hx0,v0,hst⟩|⟨rfl,hx0,hx1,v0,v1,hst⟩
  ·have HST:=hid hst;clear hst;go_wp2_with fail;refine(zh7 wr g ρ N d HST.out.dv (by omega) n (by omega)).mono ?_;rintro e w1 ⟨s0,v0,hs0,rfl,hrd0,hvb0,hd1,hk1⟩;rw[HX0.out]at hs0 hd1 ⊢;dsimp only at hs0 hd1 ⊢;obtain⟨a0,c0,rfl⟩:=hrd0.slice';have hst1:=HST.out.read hk1 hd1;have hvb : ∀ k,(Value.slice a0 s0.data.length c0).ownBlock=some k->gN<k:=fun k hk=>by have:=hvb0 k hk;have:=HST.out.lt;have:=HST.out.o2;omega
   have HVB:=hid hvb;have HS0:=hid hs0;clear hs0;go_upto_region 8 with fail;obtain⟨wx,hwx⟩ : ∃ wx,wx=w1.alloc (.cells #[.bool s0.ok,.int .i64 s0.count,.slice a0 s0.data.length c0] 249):=⟨_,rfl⟩
   rw[<-hwx];have hxx:Ext w1 wx:=by rw[hwx];exact(Ext.refl _).alloc _
   have hrx:wx.heap[w1.heap.size]? = some (.cells #[.bool s0.ok,.int .i64 s0.count,.slice a0 s0.data.length c0] 249 (0,0)):=by rw[hwx];exact heap_alloc_new _ _
   have hst2:=hst1.ext hxx;obtain⟨gX,hgX⟩ : ∃ gX,gX=w1.heap.size:=⟨_,rfl⟩
   rw[<-hgX]at hrx ⊢;have p0:wx.cell? ⟨gX,0,none⟩=some (.bool s0.ok):=(cr _ hrx)
   have p1:wx.cell? ⟨gX,1,none⟩=some (.int .i64 s0.count):=(cr _ hrx)
   have p2:wx.cell? ⟨gX,2,none⟩=some (.slice a0 s0.data.length c0):=(cr _ hrx)
   have hXS : ¬ gX=gS:=by have:=hst1.lt;have:=hst1.o1;omega
   have hXS' : ¬ gS=gX:=fun e=>hXS e.symm;have HST2:=hid hst2;have HRD0:=hid (RdB.ext hrd0 hxx);clear hwx hxx hrx hgX hst1 hst2 hk1 hd1 hrd0 hvb0 hvb;by_cases hx:x0=0
   ·have hs0:=HS0.out;rw[if_pos hx,HA0.out]at hs0;have HSA:=hid hs0;clear hs0;subst hx;obtain⟨z0,z1,z2,z3,z4,z5⟩:=row6 HST2.out.rS;have y0:=zg HST2.out.rS 0;have y1:=zg HST2.out.rS 1;have y2:=zg HST2.out.rS 2;go_upto_region 11 with fail;obtain⟨wy,hwy⟩ : ∃ wy,wy=((wx.setCell ⟨gS,0,none⟩ (.bool s0.ok)).setCell ⟨gS,1,none⟩ (.int .i64 s0.count)).setCell ⟨gS,2,none⟩ (.slice a0 s0.data.length c0):=⟨_,rfl⟩
    have hky:Keep (fun k=>k≠gS) wx wy:=by rw[hwy];exact zh9 _ _ _ _ _ _ _ _
    have hry:wy.heap[gS]? = some (.cells #[.bool s0.ok,.int .i64 s0.count,.slice a0 s0.data.length c0,.bool sl0.ok,.int .i64 sl0.count,.slice none 0 0] 250 (0,0)):=by
     rw[hwy];exact(zw (o:=2) (zw (o:=1) (zw (o:=0) HST2.out.rS (.bool s0.ok)) (.int .i64 s0.count)) (.slice a0 s0.data.length c0)).trans rfl
    have hst3:=HST2.out.putS hky hry HRD0.out (RdB.nil _) HVB.out (by simp[Value.ownBlock]);rw[<-hwy];have HST3:=hid hst3;clear hwy hky hry hst3 z0 z1 z2 z3 z4 z5 y0 y1 y2 p0 p1 p2 HST2;go_wp2_with fail;refine(zmz wy gS gN 0 (.inl rfl) s0.ok ?_ ?_).mono ?_
    ·exact(cr _ HST3.out.rS)
    ·exact(cr _ HST3.out.rN)
    rintro e w3 ⟨rfl,hx3⟩;have hst4:=HST3.out.ext hx3;have n0:w3.cell? ⟨gN,0,none⟩=some (.int .i64 (-1)):=(cr _ hst4.rN)
    have n1:=zg hst4.rN 0;have HST4:=hid hst4;clear hst4 hx3;have hnw:zag A0=if s0.ok=true then 0 else -1:=by unfold zag;rw[<-HSA.out]
    rw[HSA.out]at HST4;rw[HSA.out]at hnw;cases hok:s0.ok
    ·have hok':A0.ok=false:=by rw[<-HSA.out];exact hok
     rw[hok',if_neg (by simp)]at hnw;have HNW:=hid hnw;clear hnw hok hok';go_wp2_with fail;go_roundw;case rel=>exact .inr (.inl ⟨rfl,trivial,_,by rw[HNW.out];exact HST4.out⟩)
     case measure=>simp[intOf]
    ·have hok':A0.ok=true:=by rw[<-HSA.out];exact hok
     rw[hok',if_pos rfl]at hnw;have HNW:=hid hnw;clear hnw hok hok';go_wp2_with fail;go_roundw;case rel=>exact .inr (.inl ⟨rfl,trivial,_,by rw[HNW.out];exact HST4.out.putN 0⟩)
     case measure=>simp[intOf]
   ·have hs0:=HS0.out;clear hs0;have hrS:wx.heap[gS]? = some (.cells #[.bool false,.int .i64 0,.slice none 0 0,.bool false,.int .i64 0,.slice none 0 0] 250 (0,0)):=HST2.out.rS;obtain⟨z0,z1,z2,z3,z4,z5⟩:=row6 hrS;obtain⟨t0,t1,t2,t3,t4,t5⟩:=row6 HST2.out.rR;have y0:=zg HST2.out.rR 0;have y1:=zg HST2.out.rR 1;have y2:=zg HST2.out.rR 2;have y3:=zg HST2.out.rR 3;have y4:=zg HST2.out.rR 4;have y5:=zg HST2.out.rR 5;clear hrS;go_wp2_with fail;have hr:=zf3 HST2.out.rR (.bool false) (.int .i64 0) (.slice none 0 0) (.bool false) (.int .i64 0) (.slice none 0 0);unfold set6 at hr;obtain⟨q0,q1,q2,q3,q4,q5⟩:=row6 hr;refine bodyPost_ret (v:=.tuple #[.agg #[.bool false,.int .i64 0,.slice none 0 0,.bool false,.int .i64 0,.slice none 0 0],.int .i64 (-1),.int .i64 x0]) (by simp[results,Tryz.results150,go_sem,q0,q1,q2,q3,q4,q5]) rfl ?_;have hf:=zk2 (X:=⟨sl0,sl0,-1,x0,d0⟩) (HST2.out.mono (N':=N+2) (by omega)) (.bool false) (.int .i64 0) (.slice none 0 0) (.bool false) (.int .i64 0) (.slice none 0 0) HGR.out.symm;rw[HE0.out hx];exact hf
  ·obtain⟨va,vc,rfl⟩:=hst.r0.slice';have HST:=hid hst;have HX00:=hid hx0;clear hst hx0;go_wp2_with fail;refine(zh7 wr g ρ (N+1) d0 HST.out.dv (by omega) (n+1) (by omega)).mono ?_;rintro e w1 ⟨s1,v1,hs0,rfl,hrd0,hvb0,hd1,hk1⟩;rw[HX1.out]at hs0 hd1 ⊢;dsimp only at hs0 hd1 ⊢;obtain⟨b1,e1,rfl⟩:=hrd0.slice';have hst1:=HST.out.read hk1 hd1;have hvb : ∀ k,(Value.slice b1 s1.data.length e1).ownBlock=some k->gN<k:=fun k hk=>by have:=hvb0 k hk;have:=HST.out.lt;have:=HST.out.o2;omega
   have HVB:=hid hvb;have HS0:=hid hs0;clear hs0;go_upto_region 8 with fail;obtain⟨wx,hwx⟩ : ∃ wx,wx=w1.alloc (.cells #[.bool s1.ok,.int .i64 s1.count,.slice b1 s1.data.length e1] 249):=⟨_,rfl⟩
   rw[<-hwx];have hxx:Ext w1 wx:=by rw[hwx];exact(Ext.refl _).alloc _
   have hrx:wx.heap[w1.heap.size]? = some (.cells #[.bool s1.ok,.int .i64 s1.count,.slice b1 s1.data.length e1] 249 (0,0)):=by rw[hwx];exact heap_alloc_new _ _
   have hst2:=hst1.ext hxx;obtain⟨gX,hgX⟩ : ∃ gX,gX=w1.heap.size:=⟨_,rfl⟩
   rw[<-hgX]at hrx ⊢;have p0:wx.cell? ⟨gX,0,none⟩=some (.bool s1.ok):=(cr _ hrx)
   have p1:wx.cell? ⟨gX,1,none⟩=some (.int .i64 s1.count):=(cr _ hrx)
   have p2:wx.cell? ⟨gX,2,none⟩=some (.slice b1 s1.data.length e1):=(cr _ hrx)
   have hXS : ¬ gX=gS:=by have:=hst1.lt;have:=hst1.o1;omega
   have hXS' : ¬ gS=gX:=fun e=>hXS e.symm;have HST2:=hid hst2;have HRD0:=hid (RdB.ext hrd0 hxx);clear hwx hxx hrx hgX hst1 hst2 hk1 hd1 hrd0 hvb0 hvb;by_cases hx:x1=0
   ·have hs0:=HS0.out;rw[if_pos hx,HA1.out]at hs0;have HSA:=hid hs0;clear hs0;subst hx;obtain⟨z0,z1,z2,z3,z4,z5⟩:=row6 HST2.out.rS;have y0:=zg HST2.out.rS 3;have y1:=zg HST2.out.rS 4;have y2:=zg HST2.out.rS 5;go_upto_region 11 with fail;obtain⟨wy,hwy⟩ : ∃ wy,wy=((wx.setCell ⟨gS,3,none⟩ (.bool s1.ok)).setCell ⟨gS,4,none⟩ (.int .i64 s1.count)).setCell ⟨gS,5,none⟩ (.slice b1 s1.data.length e1):=⟨_,rfl⟩
    have hky:Keep (fun k=>k≠gS) wx wy:=by rw[hwy];exact zh9 _ _ _ _ _ _ _ _
    have hry:wy.heap[gS]? = some (.cells #[.bool A0.ok,.int .i64 A0.count,.slice va A0.data.length vc,.bool s1.ok,.int .i64 s1.count,.slice b1 s1.data.length e1] 250 (0,0)):=by
     rw[hwy];exact(zw (o:=5) (zw (o:=4) (zw (o:=3) HST2.out.rS (.bool s1.ok)) (.int .i64 s1.count)) (.slice b1 s1.data.length e1)).trans rfl
    have hst3:=HST2.out.putS hky hry HST2.out.r0 HRD0.out HST2.out.b0 HVB.out;rw[<-hwy];have HST3:=hid hst3;clear hwy hky hry hst3 z0 z1 z2 z3 z4 z5 y0 y1 y2 p0 p1 p2 HST2;go_wp2_with fail;refine(zvi wy gS gN A0 s1 ?_ ?_ ?_ ?_).mono ?_
    ·exact(cr _ HST3.out.rS)
    ·exact(cr _ HST3.out.rS)
    ·exact(cr _ HST3.out.rS)
    ·exact(cr _ HST3.out.rN)
    rintro e w3 ⟨rfl,hx3⟩;have hst4:=HST3.out.ext hx3;have n0:w3.cell? ⟨gN,0,none⟩=some (.int .i64 (zag A0)):=(cr _ hst4.rN)
    have n1:=zg hst4.rN 0;have HST4:=hid hst4;clear hst4 hx3;rw[HSA.out]at HST4 ⊢;by_cases hnw:newF A0 A1=1
    ·have HNW:=hid hnw;rw[decide_eq_true hnw];clear hnw;go_wp2_with fail;go_roundw;case rel=>exact .inr (.inr ⟨rfl,HX00.out,trivial,_,_,by rw[HNW.out];exact HST4.out.putN 1⟩)
     case measure=>simp[intOf]
    ·have HNW:=hid (zqe hnw);rw[decide_eq_false hnw];clear hnw;go_wp2_with fail;go_roundw;case rel=>exact .inr (.inr ⟨rfl,HX00.out,trivial,_,_,by rw[HNW.out];exact HST4.out⟩)
     case measure=>simp[intOf]
   ·have hs0:=HS0.out;clear hs0;have hrS:wx.heap[gS]? = some (.cells #[.bool A0.ok,.int .i64 A0.count,.slice va A0.data.length vc,.bool false,.int .i64 0,.slice none 0 0] 250 (0,0)):=HST2.out.rS;obtain⟨z0,z1,z2,z3,z4,z5⟩:=row6 hrS;obtain⟨t0,t1,t2,t3,t4,t5⟩:=row6 HST2.out.rR;have y0:=zg HST2.out.rR 0;have y1:=zg HST2.out.rR 1;have y2:=zg HST2.out.rR 2;have y3:=zg HST2.out.rR 3;have y4:=zg HST2.out.rR 4;have y5:=zg HST2.out.rR 5;clear hrS;go_wp2_with fail;have hr:=zf3 HST2.out.rR (.bool A0.ok) (.int .i64 A0.count) (.slice va A0.data.length vc) (.bool false) (.int .i64 0) (.slice none 0 0);unfold set6 at hr;obtain⟨q0,q1,q2,q3,q4,q5⟩:=row6 hr;refine bodyPost_ret (v:=.tuple #[.agg #[.bool A0.ok,.int .i64 A0.count,.slice va A0.data.length vc,.bool false,.int .i64 0,.slice none 0 0],.int .i64 (-1),.int .i64 x1]) (by simp[results,Tryz.results150,go_sem,q0,q1,q2,q3,q4,q5]) rfl ?_;have hf:=zk2 (X:=⟨A0,sl0,-1,x1,d1⟩) (HST2.out.mono (N':=N+2) (by omega)) (.bool A0.ok) (.int .i64 A0.count) (.slice va A0.data.length vc) (.bool false) (.int .i64 0) (.slice none 0 0) HGR.out.symm;rw[HE1.out HX00.out hx];exact hf
  ·obtain⟨va,vc,rfl⟩:=hst.r0.slice';obtain⟨vb,vd,rfl⟩:=hst.r1.slice';have HST:=hid hst;have HXA:=hid hx0;have HXB:=hid hx1;obtain⟨z0,z1,z2,z3,z4,z5⟩:=row6 hst.rS;obtain⟨t0,t1,t2,t3,t4,t5⟩:=row6 hst.rR;have nn:wr.cell? ⟨gN,0,none⟩=some (.int .i64 (newF A0 A1)):=(cr _ hst.rN)
   have y0:=zg hst.rR 0;have y1:=zg hst.rR 1;have y2:=zg hst.rR 2;have y3:=zg hst.rR 3;have y4:=zg hst.rR 4;have y5:=zg hst.rR 5;have hNR : ¬ gN=gR:=by have:=hst.o2;omega
   have hRN : ¬ gR=gN:=fun e=>hNR e.symm;have hSR : ¬ gS=gR:=by have:=hst.o1;omega
   have hRS : ¬ gR=gS:=fun e=>hSR e.symm;clear hst hx0 hx1;go_wp2_with fail;go_region;all_goals
    go_wp2_with fail;have hr:=zf3 HST.out.rR (.bool A0.ok) (.int .i64 A0.count) (.slice va A0.data.length vc) (.bool A1.ok) (.int .i64 A1.count) (.slice vb A1.data.length vd);unfold set6 at hr;obtain⟨q0,q1,q2,q3,q4,q5⟩:=row6 hr;refine bodyPost_ret (v:=.tuple #[.agg #[.bool A0.ok,.int .i64 A0.count,.slice va A0.data.length vc,.bool A1.ok,.int .i64 A1.count,.slice vb A1.data.length vd],.int .i64 (newF A0 A1),.int .i64 0]) (by simp[results,Tryz.results150,go_sem,q0,q1,q2,q3,q4,q5]) rfl ?_;have hf:=zk2 (X:=⟨A0,A1,newF A0 A1,0,d1⟩) HST.out (.bool A0.ok) (.int .i64 A0.count) (.slice va A0.data.length vc) (.bool A1.ok) (.int .i64 A1.count) (.slice vb A1.data.length vd) HGR.out.symm;rw[HE2.out HXA.out HXB.out];exact hf.ext ((Ext.refl _).drew)
end
end Go.Proofs.YtnadlnmclameiaaGreatDoor
