/- part 11 -/
import Derived.Test.YtnadlnmclameiaaGreatDoorTS10
set_option maxRecDepth 100000
set_option maxHeartbeats 8000000
set_option linter.all false
namespace Go.Proofs.YtnadlnmclameiaaGreatDoor
section
open Go.RowKit
def zaw (n:Nat):ByteArray:=⟨(List.replicate n (0:UInt8)).toArray⟩
theorem zdf (n:Nat):(zaw n).size=n:=by simp[zaw,ByteArray.size]
theorem zll (n:Nat):((zaw n).extract 0 n).data.map (fun b=>Value.int .u8 b.toNat)=Builtin.zeroCells #[.int .u8 0] n:=by
 apply Array.ext
 ·simp[zaw,Builtin.zeroCells]
 ·intro i h1 h2;simp[zaw,Builtin.zeroCells,Nat.mod_one]
theorem znf (n:Nat) (w:World):(Builtin.firstCells 1 n (.string (zaw n))).run Tryz.prog w = .ok (Builtin.zeroCells (Value.int .u8 0).cells n) w:=by
 have:=zll n;simp only[Builtin.firstCells,Sem.run_pure];rw[this];rfl
theorem zhb (w:World) (ty:TypeId) (a:Option Addr) (len cap n:Nat) (h:len<=cap) (hb:len+n<=140737488355328) :
  (Builtin.append_ #[33,3] ty #[.slice a len cap,.int .i64 n]).run Tryz.prog w=(Builtin.append_ #[33,9] ty #[.slice a len cap,.string (zaw n)]).run Tryz.prog w:=by
 obtain⟨i0,hi,hz0,hz1,hz2⟩:=info_parts zet;have hw:IntKind.i64.wrap (n:Int)=n:=by rw[IntKind.wrap_i64];omega
 have hneg : ¬ ((n:Int)<0):=by omega
 have h48i : ¬ (281474976710656<(n:Int)):=by omega
 have hf:=fun W=>znf n W;have hw0:IntKind.i64.wrap 0=0:=by decide
 by_cases hroom:len+n<=cap
 ·by_cases hn0:n=0
  ·subst hn0;cases a <;> simp[Builtin.append_,run_underlying Tryz.underlying33,run_underlying Tryz.underlying3,run_underlying Tryz.underlying9,sizeOf,typeInfo,zeroValue,asInt,asIntOf,hi,hz0,hz1,hz2,hw,hw0,hneg,h48i,Builtin.lenOf,zdf,hroom,hf,h,Builtin.zeroCells]
  ·cases a <;> simp[Builtin.append_,run_underlying Tryz.underlying33,run_underlying Tryz.underlying3,run_underlying Tryz.underlying9,sizeOf,typeInfo,zeroValue,asInt,asIntOf,hi,hz0,hz1,hz2,hw,hw0,hneg,h48i,Builtin.lenOf,zdf,hroom,hf,hn0]
 ·have hn0 : ¬ n=0:=by omega
  have hfit:=growslice_fits (need:=len+n) (old:=cap) (bytes:=1) (by omega) (by omega);have h48' : ¬ (281474976710656<Builtin.nextslicecap (len+n) cap):=by omega
  have h63 : ¬ (9223372036854775807<(len:Int)+(n:Int)):=by omega
  cases a <;> simp[Builtin.append_,run_underlying Tryz.underlying33,run_underlying Tryz.underlying3,run_underlying Tryz.underlying9,sizeOf,typeInfo,zeroValue,asInt,asIntOf,hi,hz0,hz1,hz2,hw,hw0,hneg,h48i,Builtin.lenOf,zdf,hroom,hf,hn0,h48',h63]
theorem zfa {w:World}{ops:Array Oper}{rest:List Oper}{o:Oper}{a:Act}{Q:Exit->Act->World->Prop} (hgd:o.guard=none) (s x:Operand)
  (ho:o.op = .call { callee:=.builtin .append,args:=#[s,x],argTypes:=#[33,3] }) (base:Nat)
  (v:Value) (l:List UInt8) (hs:a.eval s=v) (happ:AppB w base v l)
  (n:Nat) (hx:a.eval x = .int .i64 n)
  (hbytes:l.length+n<=140737488355328) (hbase:base<=w.heap.size)
  (h : ∀ v' w',AppB w' base v' (l++List.replicate n 0)->(0<n->OwnB w' base v' (l++List.replicate n 0))->(OwnB w base v l->OwnB w' base v' (l++List.replicate n 0))->
   w.grownBy w' v.ownBlock->Below base w w'->(∀ k,v'.ownBlock=some k->v.ownBlock=some k\/w.heap.size<=k)->wpList Tryz.prog ops Q rest (a.put o.dst v') w'):wpList Tryz.prog ops Q (o :: rest) a w:=by
 refine wpList_plain hgd fun K hK=>?_;obtain⟨i0,hi,hz0,hz1,hz2⟩:=info_parts zet;have hsrc:=zmq w (zaw n);have hl:(zaw n).data.toList=List.replicate n 0:=by simp[zaw]
 rw[hl]at hsrc;obtain⟨v',w',hr,h1,h2,h3,h4,h5,h6⟩:=zda (P:=Tryz.prog) w base 33 9 o.type 5 i0 (.int .u8 0) 1 1 Tryz.underlying33 hi hz0 hz1 hz2 rfl v l.length (bvs l) happ (qh l) _ _ _ hsrc (by simp;omega) (by simp;omega) hbase;obtain⟨sa,sc,rfl,hsc⟩ : ∃ sa sc,v = .slice sa l.length sc/\l.length<=sc:=by
  obtain⟨sa,sc,e,h1,-⟩:=happ.rd;exact⟨sa,sc,e,h1⟩
 have he:=zhb w o.type sa l.length sc n hsc hbytes;rw[hr]at he;have hlr:(List.replicate n (0:UInt8)).length=n:=List.length_replicate;rw[<-List.length_append,<-zbu]at h1 h2 h3;rw[hlr]at h2;unfold Oper.wp execOp;simp only[ho,resolve,invoke,builtin,Sem.run_bind,Sem.run_pure,Result.andThen_ok,List.map_toArray,List.map_cons,List.map_nil,hs,hx,he];exact hK _ _ (h v' w' h1 h2 h3 h4 h5 h6)
end
section
open Go.RowKit Go.Maps
theorem zef {d:Dv}{n:Int} (h:yd d n=0):0<=n/\n<(d.safe.length:Int)-1:=by
 unfold yd at h;split at h
 ·simp at h
 ·omega
theorem zvk (s0 s1:Sl):newF s0 s1 = -1\/newF s0 s1=0\/newF s0 s1=1:=by
 unfold newF;repeat' split
 all_goals simp
theorem zi1 (d:Dv) (n:Int):(zo d n).newest = -1\/(zo d n).newest=0\/(zo d n).newest=1:=by
 unfold zo;split
 ·exact .inl rfl
 ·split
  ·exact .inl rfl
  ·exact zvk _ _
structure Lo where
 data:List UInt8
 count:Int
 err:Int
 dev:Dv
def j9 (d:Dv) (n:Int):Lo:=
 if yd d n≠0 then ⟨[],0,yd d n,d⟩ else if (zo d n).err≠0 then ⟨[],0,(zo d n).err,(zo d n).dev⟩ else if (zo d n).newest<0 then ⟨[],0,30,(zo d n).dev⟩
 else if (zo d n).newest=0 then ⟨(zo d n).s0.data,(zo d n).s0.count,0,(zo d n).dev⟩ else ⟨(zo d n).s1.data,(zo d n).s1.count,0,(zo d n).dev⟩
def zx6 (w:World) (g:Nat) (ρ:Nat->Option DRol) (N:Nat) (X:Lo) (e:Ending) (w':World):Prop:=
 ∃ v,e = .returned (.tuple #[v,.int .i64 X.count,.int .i64 X.err])/\RdB w' v X.data/\(∀ k,v.ownBlock=some k->w.heap.size<=k)/\DvAt w' g ρ N X.dev/\Keep (fun k=>k≠g) w w'
theorem zyd (w:World) (n:Int):Calls Tryz.prog 101 #[.pointer none,.int .i64 n] w fun e w'=>e = .returned (.tuple #[.slice none 0 0,.int .i64 0,.int .i64 1])/\w=w':=by
 go_enter Tryz.func101,Tryz.ntmps101;go_wp2_with fail;refine(zhx _ _).mono ?_;rintro e w1 ⟨rfl,rfl⟩;go_wp2_with fail;refine bodyPost_ret (v:=.tuple #[.slice none 0 0,.int .i64 0,.int .i64 1]) (by simp[results,Tryz.results101,go_sem]) rfl ?_;exact⟨rfl,rfl⟩
theorem zt0 (w:World) (g:Nat) (ρ:Nat->Option DRol) (N:Nat) (d:Dv) (h:DvAt w g ρ N d) (hN:N<=999999999) (n:Int) (hn : -9223372036854775808<=n/\n<=9223372036854775807) :
  Calls Tryz.prog 101 #[.pointer (some ⟨g,0,none⟩),.int .i64 n] w (zx6 w g ρ (N+2) (j9 d n)):=by
 have hsz:d.safe.length<=512:=by obtain⟨_,_,_,h⟩:=h;exact h.size.2
 have H:=hid h;have HN:=hid hn;clear h hn;go_enter Tryz.func101,Tryz.ntmps101;go_wp2_with fail;refine(zee w g ρ N d H.out n HN.out).mono ?_;rintro e w1 ⟨rfl,rfl⟩;by_cases hw:yd d n=0
 ·have hL:=hid (show j9 d n=if (zo d n).err≠0 then ⟨[],0,(zo d n).err,(zo d n).dev⟩ else if (zo d n).newest<0 then ⟨[],0,30,(zo d n).dev⟩ else if (zo d n).newest=0 then ⟨(zo d n).s0.data,(zo d n).s0.count,0,(zo d n).dev⟩ else ⟨(zo d n).s1.data,(zo d n).s1.count,0,(zo d n).dev⟩ by unfold j9;rw[if_neg (by simpa using hw)]);obtain⟨hw1,hw2⟩:=zef hw;rw[hw];have hnew:=zi1 d n;have hb:=zk1 w g ρ N d H.out hN n (by omega);generalize zo d n=X at hL hnew hb;clear hw;go_wp2_with fail;refine hb.mono ?_;clear hb;rintro e w2 ⟨v0,v1,rfl,hr0,hr1,hb0,hb1,hd2,hk2⟩;obtain⟨va,vc,rfl⟩:=hr0.slice';obtain⟨vb,vd,rfl⟩:=hr1.slice';have HR0:=hid hr0;have HR1:=hid hr1;have HB0:=hid hb0;have HB1:=hid hb1;have HD2:=hid hd2;have HK2:=hid hk2;clear hr0 hr1 hb0 hb1 hd2 hk2;go_upto_region 5 with fail;obtain⟨wx,hwx⟩ : ∃ wx,wx=w2.alloc (.cells #[.bool X.s0.ok,.int .i64 X.s0.count,.slice va X.s0.data.length vc,.bool X.s1.ok,.int .i64 X.s1.count,.slice vb X.s1.data.length vd] 250):=⟨_,rfl⟩
  rw[<-hwx];have hxx:Ext w2 wx:=by rw[hwx];exact(Ext.refl _).alloc _
  have hrx:wx.heap[w2.heap.size]? = some (.cells #[.bool X.s0.ok,.int .i64 X.s0.count,.slice va X.s0.data.length vc,.bool X.s1.ok,.int .i64 X.s1.count,.slice vb X.s1.data.length vd] 250 (0,0)):=by rw[hwx];exact heap_alloc_new _ _
  clear hwx;obtain⟨z0,z1,z2,z3,z4,z5⟩:=row6 hrx;have HXX:=hid hxx;clear hxx hrx;by_cases he:X.err=0
  ·have hL2:=hid (hL.out.trans (if_neg (by simpa using he)));rw[he];clear he;rcases hnew with h|h|h
   ·have hL3:=hid (hL2.out.trans (if_pos (by rw[h];omega)));rw[h];clear h;go_wp2_with fail;refine bodyPost_ret (v:=.tuple #[.slice none 0 0,.int .i64 0,.int .i64 30]) (by simp[results,Tryz.results101,go_sem]) rfl ?_;rw[hL3.out];exact⟨_,rfl,RdB.nil _,by simp[Value.ownBlock],HD2.out.ext HXX.out,HK2.out.trans (HXX.out.keep _)⟩
   ·have hL3:=hid ((hL2.out.trans (if_neg (by rw[h];omega))).trans (if_pos h));rw[h];clear h;go_wp2_with fail;go_region;all_goals
     go_wp2_with fail;refine bodyPost_ret (v:=.tuple #[.slice va X.s0.data.length vc,.int .i64 X.s0.count,.int .i64 0]) (by simp[results,Tryz.results101,go_sem]) rfl ?_;rw[hL3.out];exact⟨_,rfl,HR0.out.ext (HXX.out.trans (by(exact Ext.xt))),HB0.out,HD2.out.ext (HXX.out.trans (by(exact Ext.xt))),HK2.out.trans ((HXX.out.trans (by(exact Ext.xt))).keep _)⟩
   ·have hL3:=hid ((hL2.out.trans (if_neg (by rw[h];omega))).trans (if_neg (by rw[h];omega)));rw[h];clear h;go_wp2_with fail;go_region;all_goals
     go_wp2_with fail;refine bodyPost_ret (v:=.tuple #[.slice vb X.s1.data.length vd,.int .i64 X.s1.count,.int .i64 0]) (by simp[results,Tryz.results101,go_sem]) rfl ?_;rw[hL3.out];exact⟨_,rfl,HR1.out.ext (HXX.out.trans (by(exact Ext.xt))),HB1.out,HD2.out.ext (HXX.out.trans (by(exact Ext.xt))),HK2.out.trans ((HXX.out.trans (by(exact Ext.xt))).keep _)⟩
  ·have hL2:=hid (hL.out.trans (if_pos (by simpa using he)));clear hnew;go_wp2_with fail;refine bodyPost_ret (v:=.tuple #[.slice none 0 0,.int .i64 0,.int .i64 X.err]) (by simp[results,Tryz.results101,go_sem]) rfl ?_;rw[hL2.out];exact⟨_,rfl,RdB.nil _,by simp[Value.ownBlock],HD2.out.ext HXX.out,HK2.out.trans (HXX.out.keep _)⟩
 ·have hL:=hid (show j9 d n=⟨[],0,yd d n,d⟩ by unfold j9;rw[if_pos (by simpa using hw)]);generalize yd d n=e at hw hL;go_wp2_with fail;refine bodyPost_ret (v:=.tuple #[.slice none 0 0,.int .i64 0,.int .i64 e]) (by simp[results,Tryz.results101,go_sem]) rfl ?_;rw[hL.out];exact⟨_,rfl,RdB.nil _,by simp[Value.ownBlock],H.out.mono (by omega),Keep.refl _ _⟩
open Go.RowKit Go.Maps
def recB (c:Nat) (data:List UInt8):List UInt8:=putF 115 (putU c++data)++List.replicate (512-(putF 115 (putU c++data)).length) 0
theorem zb9 (c:Nat) (data:List UInt8) (h:data.length<=400):(putF 115 (putU c++data)).length<=512/\(recB c data).length=512/\(putU c++data).length<=410:=by
 have h1:=zq c;have h2:=zq (putU c++data).length;have h3:(putF 115 (putU c++data)).length<=512:=by rw[ko,List.length_append];rw[List.length_append]at h2;omega
 refine⟨h3,?_,by rw[List.length_append];omega⟩;unfold recB;rw[List.length_append,List.length_replicate];omega
def layF (d:Dv) (n:Int) (c:Nat) (data:List UInt8):Int × Dv:=if (zy d n (recB c data)).1≠0 then zy d n (recB c data) else z7 (zy d n (recB c data)).2
theorem bm {w wa w1 w2:World}{ρ ρ1 ρ2:Nat->Option DRol} (hx:Ext w wa) (hk1:Keep (fun k=>ρ k=none) wa w1) (hr1 : ∀ k,ρ1 k≠none->ρ k≠none\/wa.heap.size<=k) (hk2:Keep (fun k=>ρ1 k=none) w1 w2) (hr2 : ∀ k,ρ2 k≠none->ρ1 k≠none\/w1.heap.size<=k) :
  Keep (fun k=>ρ k=none) w w2/\∀ k,ρ2 k≠none->ρ k≠none\/w.heap.size<=k:=by
 have z0:=hx.size;have z1:=hk1.size;refine⟨?_,fun k hk=>?_⟩
 ·have h1:Keep (fun k=>ρ k=none/\k<w.heap.size) w w1:=((hx.keep _).trans hk1).mono fun k hk _=>hk.1;have h2:Keep (fun k=>ρ k=none/\k<w.heap.size) w1 w2:=hk2.mono fun k hk _=>by
   by_cases h:ρ1 k=none
   ·exact h
   ·rcases hr1 k h with h'|h'
    ·exact absurd hk.1 h'
    ·omega
  exact(h1.trans h2).mono fun k hk hl=>⟨hk,hl⟩
 ·rcases hr2 k hk with h|h
  ·rcases hr1 k h with h|h
   ·exact .inl h
   ·right;omega
  ·right;omega
theorem zoy (w:World) (dv:Value) (data:List UInt8) (hd:RdB w dv data) (hlong:data.length<=2000) :
  Calls Tryz.prog 49 #[.slice none 0 0,.agg #[.int .u8 115,dv]] w fun e w'=>∃ v',e = .returned (.tuple #[v',.int .i64 0])/\OwnB w' w.heap.size v' (putF 115 data)/\Below w.heap.size w w':=by
 have h:=zck w (.slice none 0 0) [] 115 dv data (RdB.nil _) hd hlong (by simp);rw[show (((115:UInt8).toNat:Nat):Int)=115 from rfl,List.nil_append]at h;exact h
theorem zhs (w:World) (g:Nat) (ρ:Nat->Option DRol) (N:Nat) (d:Dv) (h:DvAt w g ρ N d) (hN:N<=999999990) (n:Int) (hn : -9223372036854775808<=n/\n<=9223372036854775807) (c:Nat) (hc:c<=1000000000) (v:Value) (data:List UInt8) (hv:RdB w v data) (hdl:data.length<=400) :
  Calls Tryz.prog 159 #[.pointer (some ⟨g,0,none⟩),.int .i64 n,.int .i64 c,v] w (zhd w g ρ (N+3) (layF d n c data)):=by
 obtain⟨va,vc,rfl⟩:=hv.slice';obtain⟨hB1,hB2,hB3⟩:=zb9 c data hdl;have HRL:=hid (fun k (hk:ρ k≠none)=>h.rlt k hk);have HV:=hid hv;have H:=hid h;have HN:=hid hn;have hcm:(c:Int) % 18446744073709551616=c:=by omega
 have hpu:=zq c;obtain⟨D,hD⟩ : ∃ D,D=putU c++data:=⟨_,rfl⟩
 have HDD:=hid hD;have HRB:=hid (show recB c data=putF 115 D++List.replicate (512-(putF 115 D).length) 0 by rw[hD,recB]);rw[<-hD]at hB1 hB3;clear hD;clear h hv hn;go_enter Tryz.func159,Tryz.ntmps159;go_wp2_with fail;refine(yi w (.slice none 0 0) [] c (RdB.nil _) (by omega) (by simp)).mono ?_;rintro e w1 ⟨v1,rfl,ho1,hb1⟩;rw[List.nil_append]at ho1;have hx1:=Ext.of hb1;obtain⟨a1,c1,rfl⟩:=ho1.slice;have hs1:=hx1.size;go_wp2_with (at_builtin;go_must (refine kw rfl _ _ _ rfl w.heap.size _ (putU c) rfl (qg ho1) _ data rfl (bz (HV.out.ext hx1)) ?_ ?_ ?_;(first|omega|skip);(first|omega|skip);intro v2 w2 k1 k2 k3 k4 k5 k6;have ho2:=k3 ho1;rw[<-HDD.out]at ho2;have hx2:Ext w w2:=Ext.step hx1 k5 (Nat.le_refl _);clear k1 k2 k3 k4 k5 k6 ho1;obtain⟨a2,c2,rfl⟩:=ho2.slice))
 have hs2:=hx2.size;refine(zoy w2 _ _ (zk ho2) (by omega)).mono ?_;rintro e w3 ⟨v3,rfl,ho3,hb3⟩;have hx3:=Ext.of hb3;have hs3:=hx3.size;generalize putF 115 D=B at ho3 hB1 HRB;obtain⟨a3,c3,rfl⟩:=ho3.slice;have hsub:IntKind.i64.wrap (512-(B.length:Int))=((512-B.length:Nat):Int):=by rw[IntKind.wrap_i64];omega
 have HX2:=hid hx2;have HB2:=hid hB2;clear ho2 hx1 hx2 hb1 hb3 hpu hcm hB2;go_wp2_with (at_builtin;go_must (refine zfa rfl _ _ rfl w2.heap.size _ B rfl (qg ho3) (512-B.length) rfl ?_ ?_ ?_;(first|omega|skip);(first|omega|skip);intro v4 w4 k1 k2 k3 k4 k5 k6;have ho4:=k3 ho3;have hx4:Ext w2 w4:=Ext.step hx3 k5 (Nat.le_refl _);clear k1 k2 k3 k4 k5 k6;obtain⟨a4,c4,rfl⟩:=ho4.slice))
 have HX4:=hid (HX2.out.trans hx4);rw[<-HRB.out]at ho4;have HO4:=hid ho4;have hvb : ∀ k,(Value.slice a4 (recB c data).length c4).ownBlock=some k->ρ k=none:=fun k hk=>by
  by_cases h:ρ k=none
  ·exact h
  ·have h1:=HRL.out k h;have h2:=(World.ownsRow.lt ho4 k hk).1;omega
 have hrd:RdB w4 (.slice a4 512 c4) (recB c data):=by
  have:=zk ho4;rw[HB2.out]at this;exact this
 rw[HB2.out]at hvb;refine(ze5 w4 g ρ N d (H.out.ext HX4.out) (by omega) n HN.out _ (recB c data) hrd hvb).mono ?_;rintro e w5 ⟨rfl,ρ1,hd5,hk5,hr5⟩;clear hrd hvb ho4 ho3 hx4 hx3 hsub hB1;by_cases hx:(zy d n (recB c data)).1=0
 ·have hL:=hid (show layF d n c data=z7 (zy d n (recB c data)).2 by unfold layF;rw[if_neg (by simpa using hx)]);rw[hx];generalize (zy d n (recB c data)).2=d5 at hd5 hL;have HD5:=hid hd5;have HK5:=hid hk5;have HR5:=hid hr5;clear hd5 hk5 hr5 hx;go_wp2_with fail;refine(ze7 w5 g ρ1 (N+2) d5 HD5.out (by omega)).mono ?_;rintro e w6 ⟨rfl,ρ2,hd6,hk6,hr6⟩;have HD6:=hid hd6;obtain⟨h1,h2⟩:=bm HX4.out HK5.out HR5.out hk6 hr6;have H1:=hid h1;have H2:=hid h2;clear hd6 hk6 hr6 h1 h2;go_wp2_with fail;go_ret;exact⟨by rw[hL.out];rfl,ρ2,by rw[hL.out];exact HD6.out,H1.out,H2.out⟩
 ·have hL:=hid (show layF d n c data=zy d n (recB c data) by unfold layF;rw[if_pos (by simpa using hx)]);generalize zy d n (recB c data)=X at hd5 hL hx;obtain⟨x,d5⟩:=X;dsimp only at hd5 hx;have HD5:=hid hd5;obtain⟨h1,h2⟩:=bm HX4.out hk5 hr5 (Keep.refl _ _) (fun k h=>.inl h);have H1:=hid h1;have H2:=hid h2;clear hd5 hk5 hr5 h1 h2;go_wp2_with fail;go_ret;exact⟨by rw[hL.out];rfl,ρ1,by rw[hL.out];exact HD5.out.mono (by omega),H1.out,H2.out⟩
open Go.RowKit Go.Maps
theorem zn9 (w:World):(Instr.makeSlice 33 (.int .i64 512) (.int .i64 512)).run Tryz.prog w = .ok (.slice (some ⟨w.heap.size,0,none⟩) 512 512) (w.alloc (.cells (bvs zb).toArray 5)):=by
 have h:=run_make_row' (P:=Tryz.prog) 33 5 (.int .u8 0) 1 Tryz.underlying33 zet rfl .i64 .i64 512 (by omega) (by omega) w;have e:madeCells #[Value.int .u8 0] 512=(bvs zb).toArray:=by
  apply Array.toList_inj.1;rw[toList_madeCells_one,zqy]
 rw[e]at h;exact h
def ju (d:Dv) (n:Int) (data:List UInt8):Int × Dv:=
 if yd d n≠0 then (yd d n,d) else if 400<data.length then (31,d) else if (zy d (n+1) zb).1≠0 then zy d (n+1) zb
 else if (z7 (zy d (n+1) zb).2).1≠0 then z7 (zy d (n+1) zb).2 else layF (z7 (zy d (n+1) zb).2).2 n 0 data
theorem zo4 (w:World) (g:Nat) (ρ:Nat->Option DRol) (N:Nat) (d:Dv) (h:DvAt w g ρ N d) (hN:N<=999999900) (n:Int) (hn : -9223372036854775808<=n/\n<=9223372036854775807) (v:Value) (data:List UInt8) (hv:RdB w v data) (hvb:0<data.length->∀ k,v.ownBlock=some k->ρ k=none) :
  Calls Tryz.prog 124 #[.pointer (some ⟨g,0,none⟩),.int .i64 n,v] w (zhd w g ρ (N+6) (ju d n data)):=by
 have hsz:d.safe.length<=512:=by obtain⟨_,_,_,h⟩:=h;exact h.size.2
 obtain⟨va,vc,rfl⟩:=hv.slice';have HRL:=hid (fun k (hk:ρ k≠none)=>h.rlt k hk);have H:=hid h;have HN:=hid hn;have HV:=hid hv;have HVB:=hid hvb;clear h hn hv hvb;go_enter Tryz.func124,Tryz.ntmps124;go_wp2_with fail;refine(zee w g ρ N d H.out n HN.out).mono ?_;rintro e w1 ⟨rfl,rfl⟩;by_cases hw:yd d n=0
 ·have hF:=hid (show ju d n data=if 400<data.length then (31,d) else if (zy d (n+1) zb).1≠0 then zy d (n+1) zb
   else if (z7 (zy d (n+1) zb).2).1≠0 then z7 (zy d (n+1) zb).2 else layF (z7 (zy d (n+1) zb).2).2 n 0 data by unfold ju;rw[if_neg (by simpa using hw)])
  obtain⟨hw1,hw2⟩:=zef hw;rw[hw];clear hw;by_cases hl:400<data.length
  ·have hF2:=hid (hF.out.trans (if_pos hl));go_wp2_with fail;go_ret;exact⟨by rw[hF2.out];rfl,ρ,by rw[hF2.out];exact H.out.mono (by omega),Keep.refl _ _,fun k h=>.inl h⟩
  ·have hF2:=hid (hF.out.trans (if_neg hl));have hmk:=zn9;have hl1 : ¬ (400:Int)<(data.length:Int):=by omega
   have hwr:IntKind.i64.wrap (n+1)=n+1:=by rw[IntKind.wrap_i64];omega
   go_wp2_with fail;obtain⟨wa,hwa⟩ : ∃ wa,wa=w.alloc (.cells (bvs zb).toArray 5):=⟨_,rfl⟩
   have hxa:Ext w wa:=by rw[hwa];exact(Ext.refl _).alloc _
   have hra:wa.heap[w.heap.size]? = some (.cells (bvs zb).toArray 5 (0,0)):=by rw[hwa];exact heap_alloc_new _ _
   rw[<-hwa];clear hwa hmk;have hrd:=zaq hra 512 zb_len.symm (by omega);refine(ze5 wa g ρ N d (H.out.ext hxa) (by omega) (n+1) (by omega) _ zb hrd (fun k hk=>?_)).mono ?_
   ·simp only[Value.ownBlock,Option.some.injEq]at hk;by_cases h:ρ k=none
    ·exact h
    ·have:=HRL.out k h;omega
   rintro e w5 ⟨rfl,ρ1,hd5,hk5,hr5⟩;clear hra hrd;by_cases hx:(zy d (n+1) zb).1=0
   ·have hF3:=hid (hF2.out.trans (if_neg (by simpa using hx)));rw[hx];generalize (zy d (n+1) zb).2=d5 at hd5 hF3;have HD5:=hid hd5;have HK5:=hid hk5;have HR5:=hid hr5;have HXA:=hid hxa;clear hd5 hk5 hr5 hx hxa hF hF2;go_wp2_with fail;refine(ze7 w5 g ρ1 (N+2) d5 HD5.out (by omega)).mono ?_;rintro e w6 ⟨rfl,ρ2,hd6,hk6,hr6⟩;obtain⟨h1,h2⟩:=bm HXA.out HK5.out HR5.out hk6 hr6;have H1:=hid h1;have H2:=hid h2;have HD6:=hid hd6;clear hk6 hr6 h1 h2 hd6;by_cases hy:(z7 d5).1=0
    ·have hF4:=hid (hF3.out.trans (if_neg (by simpa using hy)));rw[hy];generalize (z7 d5).2=d6 at HD6 hF4;have hrd6:=hid (Rd.carry0 HV.out H1.out.size fun hn k hk hl=>H1.out.block k (HVB.out hn k hk) hl);clear hy hF3;go_wp2_with fail;refine(zhs w6 g ρ2 (N+3) d6 HD6.out (by omega) n HN.out 0 (by omega) _ data hrd6.out (by omega)).mono ?_;rintro e w7 ⟨rfl,ρ3,hd7,hk7,hr7⟩;obtain⟨h3,h4⟩:=bm (Ext.refl _) H1.out H2.out hk7 hr7;have H3:=hid h3;have H4:=hid h4;have HD7:=hid hd7;clear hk7 hr7 h3 h4 hd7;go_wp2_with fail;go_ret;exact⟨by rw[hF4.out];rfl,ρ3,by rw[hF4.out];exact HD7.out,H3.out,H4.out⟩
    ·have hF4:=hid (hF3.out.trans (if_pos (by simpa using hy)));generalize z7 d5=Y at HD6 hF4 hy;obtain⟨y,d6⟩:=Y;dsimp only at HD6 hy;clear hF3;go_wp2_with fail;go_ret;exact⟨by rw[hF4.out];rfl,ρ2,by rw[hF4.out];exact HD6.out.mono (by omega),H1.out,H2.out⟩
   ·have hF3:=hid (hF2.out.trans (if_pos (by simpa using hx)));generalize zy d (n+1) zb=X at hd5 hF3 hx;obtain⟨x,d5⟩:=X;dsimp only at hd5 hx;have HD5:=hid hd5;obtain⟨h1,h2⟩:=bm hxa hk5 hr5 (Keep.refl _ _) (fun k h=>.inl h);have H1:=hid h1;have H2:=hid h2;clear hd5 hk5 hr5 h1 h2 hF hF2 hxa;go_wp2_with fail;go_ret;exact⟨by rw[hF3.out];rfl,ρ1,by rw[hF3.out];exact HD5.out.mono (by omega),H1.out,H2.out⟩
 ·have hF:=hid (show ju d n data=(yd d n,d) by unfold ju;rw[if_pos (by simpa using hw)]);generalize yd d n=e at hw hF;go_wp2_with fail;go_ret;exact⟨by rw[hF.out];rfl,ρ,by rw[hF.out];exact H.out.mono (by omega),Keep.refl _ _,fun k h=>.inl h⟩
end
section
open Go.RowKit Go.Maps
def newC (X:Bo):Int:=if X.newest=0 then X.s0.count else X.s1.count
def zyh (d:Dv) (n:Int) (data:List UInt8):Int × Dv:=
 if yd d n≠0 then (yd d n,d) else if 400<data.length then (31,d) else if (zo d n).err≠0 then ((zo d n).err,(zo d n).dev) else if (zo d n).newest<0 then (30,(zo d n).dev)
 else layF (zo d n).dev (n+1-(zo d n).newest) (newC (zo d n)+1).toNat data
theorem zyc (w:World) (n:Int) (v:Value):Calls Tryz.prog 153 #[.pointer none,.int .i64 n,v] w fun e w'=>e = .returned (.int .i64 1)/\w=w':=by
 go_enter Tryz.func153,Tryz.ntmps153;go_wp2_with fail;refine(zhx _ _).mono ?_;rintro e w1 ⟨rfl,rfl⟩;go_wp2_with fail;go_ret;exact⟨rfl,rfl⟩
theorem zra (w:World) (g:Nat) (ρ:Nat->Option DRol) (N:Nat) (d:Dv) (h:DvAt w g ρ N d) (hN:N<=999999900) (n:Int) (hn : -9223372036854775808<=n/\n<=9223372036854775807) (v:Value) (data:List UInt8) (hv:RdB w v data) (hvb:0<data.length->∀ k,v.ownBlock=some k->ρ k=none)
  (hcn:yd d n=0->0<=newC (zo d n)/\newC (zo d n)<=999999999) :
  Calls Tryz.prog 153 #[.pointer (some ⟨g,0,none⟩),.int .i64 n,v] w (zhd w g ρ (N+5) (zyh d n data)):=by
 have hsz:d.safe.length<=512:=by obtain⟨_,_,_,h⟩:=h;exact h.size.2
 obtain⟨va,vc,rfl⟩:=hv.slice';have HRL:=hid (fun k (hk:ρ k≠none)=>h.rlt k hk);have hrg:ρ g=some .dev:=by obtain⟨_,_,_,h⟩:=h;exact h.rg
 have HRG:=hid hrg;have H:=hid h;have HN:=hid hn;have HV:=hid hv;have HVB:=hid hvb;have HCN:=hid hcn;clear h hn hv hvb hcn hrg;go_enter Tryz.func153,Tryz.ntmps153;go_wp2_with fail;refine(zee w g ρ N d H.out n HN.out).mono ?_;rintro e w1 ⟨rfl,rfl⟩;by_cases hw:yd d n=0
 ·have hF:=hid (show zyh d n data=if 400<data.length then (31,d) else if (zo d n).err≠0 then ((zo d n).err,(zo d n).dev) else if (zo d n).newest<0 then (30,(zo d n).dev)
   else layF (zo d n).dev (n+1-(zo d n).newest) (newC (zo d n)+1).toNat data by unfold zyh;rw[if_neg (by simpa using hw)])
  obtain⟨hw1,hw2⟩:=zef hw;have HCN:=hid (HCN.out hw);rw[hw];clear hw;by_cases hl:400<data.length
  ·have hF2:=hid (hF.out.trans (if_pos hl));go_wp2_with fail;go_ret;exact⟨by rw[hF2.out];rfl,ρ,by rw[hF2.out];exact H.out.mono (by omega),Keep.refl _ _,fun k h=>.inl h⟩
  ·have hF2:=hid (hF.out.trans (if_neg hl));have hl1 : ¬ (400:Int)<(data.length:Int):=by omega
   have hnew:=zi1 d n;have hb:=zk1 w g ρ N d H.out (by omega) n (by omega);generalize zo d n=X at hF2 hnew hb HCN;clear hF;go_wp2_with fail;refine hb.mono ?_;clear hb;rintro e w2 ⟨v0,v1,rfl,hr0,hr1,hb0,hb1,hd2,hk2⟩;obtain⟨sa,sc,rfl⟩:=hr0.slice';obtain⟨sb,sd,rfl⟩:=hr1.slice';have HD2:=hid hd2;have HK2:=hid hk2;clear hr0 hr1 hb0 hb1 hd2 hk2;go_upto_region 7 with fail;obtain⟨wx,hwx⟩ : ∃ wx,wx=w2.alloc (.cells #[.bool X.s0.ok,.int .i64 X.s0.count,.slice sa X.s0.data.length sc,.bool X.s1.ok,.int .i64 X.s1.count,.slice sb X.s1.data.length sd] 250):=⟨_,rfl⟩
   rw[<-hwx];have hxx:Ext w2 wx:=by rw[hwx];exact(Ext.refl _).alloc _
   have hrx:wx.heap[w2.heap.size]? = some (.cells #[.bool X.s0.ok,.int .i64 X.s0.count,.slice sa X.s0.data.length sc,.bool X.s1.ok,.int .i64 X.s1.count,.slice sb X.s1.data.length sd] 250 (0,0)):=by rw[hwx];exact heap_alloc_new _ _
   clear hwx;obtain⟨z0,z1,z2,z3,z4,z5⟩:=row6 hrx;have hkx:Keep (fun k=>ρ k=none) w wx:=(HK2.out.mono fun j hj _ e=>by rw[e,HRG.out]at hj;simp at hj).trans (hxx.keep _);have HKX:=hid hkx;have HDX:=hid (HD2.out.ext hxx);have HVX:=hid (Rd.carry0 HV.out hkx.size fun hn k hk hl=>hkx.block k (HVB.out hn k hk) hl);clear hxx hrx hkx HD2 HK2;by_cases he:X.err=0
   ·have hF3:=hid (hF2.out.trans (if_neg (by simpa using he)));rw[he];clear he hF2;rcases hnew with h|h|h
    ·have hF4:=hid (hF3.out.trans (if_pos (by rw[h];omega)));rw[h];clear h;go_wp2_with fail;go_ret;exact⟨by rw[hF4.out];rfl,ρ,by rw[hF4.out];exact HDX.out.mono (by omega),HKX.out,fun k h=>.inl h⟩
    ·have hF4:=hF3.out.trans (if_neg (by rw[h];omega));have hcn:=HCN.out;have e1:newC X=X.s0.count:=if_pos h;rw[e1]at hcn hF4;rw[h]at hF4;obtain⟨q,hq⟩ : ∃ q:Nat,X.s0.count=(q:Int):=⟨X.s0.count.toNat,by omega⟩
     rw[hq]at hcn hF4 z1;rw[h];have hF5:=hid (show zyh d n data=layF X.dev (n+1) (q+1) data by rw[hF4,show n+1-0=n+1 by omega,show ((q:Int)+1).toNat=q+1 by omega]);have hq1:q<=999999999:=by omega
     have hwr1:IntKind.i64.wrap (n+1)=n+1:=by rw[IntKind.wrap_i64];omega
     have hwr2:IntKind.i64.wrap ((q:Int)+1)=(q:Int)+1:=by rw[IntKind.wrap_i64];omega
     clear h hF4 hcn e1 hF3 HCN hq;go_wp2_with fail;have hla:=zhs wx g ρ (N+2) X.dev HDX.out (by omega) (n+1) (by omega) (q+1) (by omega) _ data HVX.out (by omega);rw[show ((q+1:Nat):Int)=(q:Int)+1 from by omega]at hla;refine hla.mono ?_;clear hla;rintro e w7 ⟨rfl,ρ3,hd7,hk7,hr7⟩;obtain⟨h3,h4⟩:=bm (Ext.refl _) HKX.out (fun k h=>.inl h) hk7 hr7;have H3:=hid h3;have H4:=hid h4;have HD7:=hid hd7;clear hk7 hr7 h3 h4 hd7;go_wp2_with fail;go_ret;exact⟨by rw[hF5.out];rfl,ρ3,by rw[hF5.out];exact HD7.out,H3.out,H4.out⟩
    ·have hF4:=hF3.out.trans (if_neg (by rw[h];omega));have hcn:=HCN.out;have e1:newC X=X.s1.count:=if_neg (by rw[h];omega);rw[e1]at hcn hF4;rw[h]at hF4;obtain⟨q,hq⟩ : ∃ q:Nat,X.s1.count=(q:Int):=⟨X.s1.count.toNat,by omega⟩
     rw[hq]at hcn hF4 z4;rw[h];have hF5:=hid (show zyh d n data=layF X.dev n (q+1) data by rw[hF4,show n+1-1=n by omega,show ((q:Int)+1).toNat=q+1 by omega]);have hq1:q<=999999999:=by omega
     have hwr1:IntKind.i64.wrap (n+1)=n+1:=by rw[IntKind.wrap_i64];omega
     have hwr3:IntKind.i64.wrap n=n:=by rw[IntKind.wrap_i64];omega
     have hwr2:IntKind.i64.wrap ((q:Int)+1)=(q:Int)+1:=by rw[IntKind.wrap_i64];omega
     clear h hF4 hcn e1 hF3 HCN hq;go_wp2_with fail;have hla:=zhs wx g ρ (N+2) X.dev HDX.out (by omega) (n) (by omega) (q+1) (by omega) _ data HVX.out (by omega);rw[show ((q+1:Nat):Int)=(q:Int)+1 from by omega]at hla;refine hla.mono ?_;clear hla;rintro e w7 ⟨rfl,ρ3,hd7,hk7,hr7⟩;obtain⟨h3,h4⟩:=bm (Ext.refl _) HKX.out (fun k h=>.inl h) hk7 hr7;have H3:=hid h3;have H4:=hid h4;have HD7:=hid hd7;clear hk7 hr7 h3 h4 hd7;go_wp2_with fail;go_ret;exact⟨by rw[hF5.out];rfl,ρ3,by rw[hF5.out];exact HD7.out,H3.out,H4.out⟩
   ·have hF3:=hid (hF2.out.trans (if_pos (by simpa using he)));clear hnew;go_wp2_with fail;go_ret;exact⟨by rw[hF3.out];rfl,ρ,by rw[hF3.out];exact HDX.out.mono (by omega),HKX.out,fun k h=>.inl h⟩
 ·have hF:=hid (show zyh d n data=(yd d n,d) by unfold zyh;rw[if_pos (by simpa using hw)]);generalize yd d n=e at hw hF;go_wp2_with fail;go_ret;exact⟨by rw[hF.out];rfl,ρ,by rw[hF.out];exact H.out.mono (by omega),Keep.refl _ _,fun k h=>.inl h⟩
end
end Go.Proofs.YtnadlnmclameiaaGreatDoor
