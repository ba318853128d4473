/- part 34 -/
import Derived.Test.YtnadlnmclameiaaGreatDoorTS33
import Derived.StillTailTactics
set_option maxRecDepth 100000
set_option maxHeartbeats 8000000
set_option linter.all false
namespace Go.Proofs.YtnadlnmclameiaaGreatDoor
section
open Go.RowKit
theorem zmo (a b:ByteArray):(!(a.toList == b.toList))=decide (a≠b):=by
 rw[ByteArray.toList_eq,ByteArray.toList_eq,Bool.eq_iff_iff];simp only[Bool.not_eq_true',beq_eq_false_iff_ne,decide_eq_true_eq];constructor
 ·rintro h rfl;exact h rfl
 ·intro h e;exact h (ByteArray.ext (Array.toList_inj.1 e))
theorem zge (n:ByteArray) (t:Bool) (i:Int) (x:ByteArray):zal (n,t,i,x)=(yn n && (if t then decide (x.size<=200) && decide (i=0) else decide (x.size=0))):=rfl
theorem zcy (w:World) (S:Nat->Prop) (t:ByteArray) (n:Int) (fv:Value) (fs:List Fld) (ht:t.size<=9223372036854775807) (hn : -9223372036854775808<=n/\n<=9223372036854775807) (hf:RdS rF w S fv fs) :
  Calls Tryz.prog 43 #[.agg #[.string t,.int .i64 n,fv]] w fun e w'=>e = .returned (.int .i64 (jc (t,n,fs)))/\Below w.heap.size w w':=by
 obtain⟨hn1,hn2⟩:=hn;obtain⟨fa,fc,rfl,hfc1,hfc2⟩:=hf.slice;have HF:=hid hf;have HCK:=hid (zqd (t,n,fs));obtain⟨ok0,hok0⟩ : ∃ ok0,ok0=(yn t && (decide (0<=n) && (decide (n<=1073741824) && decide (fs.length<=16)))):=⟨_,rfl⟩
 dsimp only at HCK;rw[<-hok0]at HCK;have HOK0:=hid hok0;clear hf hok0;go_enter Tryz.func43,Tryz.ntmps43;have hxa:Ext w (w.alloc (.cells #[.string t,.int .i64 n,.slice fa fs.length fc] 58)):=(Ext.refl w).alloc _;go_upto_region 1 with fail;go_cut [3] (fun s3 wx=>s3 = .bool ok0/\w.alloc (.cells #[.string t,.int .i64 n,.slice fa fs.length fc] 58)=wx)
 case first=>
  cases hnk:yn t;all_goals
   go_wp2_with ((go_at_call 42;refine(qf _ t ht).mono ?_;rw[hnk];rintro e w' ⟨rfl,rfl⟩))
  all_goals
   go_meet;refine⟨congrArg Value.bool ?_,rfl⟩;rw[HOK0.out,hnk];first|rfl|(simp;done)|(simp;omega)|(rw[Bool.eq_iff_iff];simp;omega)
 case rest=>
  obtain⟨rfl,hww⟩:=hcut;have hxc:Ext w wc:=by rw[<-hww];exact hxa
  have hb0:w.heap.size<wc.heap.size:=by rw[<-hww];simp
  have hc2:wc.cell? ⟨w.heap.size,2,none⟩=some (.slice fa fs.length fc):=by rw[<-hww];simp[go_sem]
  clear hww hxa;have HC2:=hid hc2;go_wp2_with fail;go_loopw [3,30] (fun u3 u30 wr=>∃ i:Nat,i<=fs.length/\u30 = .int .i64 i/\u3 = .bool (okTo ok0 fs i)/\Ext wc wr) (fun _ i _=>fs.length-(intOf i).toNat);case atStart=>exact⟨0,by omega,rfl,rfl,Ext.refl _⟩
  case round=>
   obtain⟨wo,rfl⟩ : ∃ wo:World,wo=wr:=⟨_,rfl⟩
   obtain⟨i,hi,rfl,rfl,hxo⟩:=hrel;by_cases hlt:i<fs.length
   ·obtain⟨g,o,cap,e,hg,-,d0,d1,d2,d3,hs1,hfi,hs2⟩:=(HF.out.ext (hxc.trans hxo)).atF i hlt;simp only[Value.slice.injEq]at e;obtain⟨rfl,-,rfl⟩:=e;have hc2:=Ext.cellS hxo HC2.out;have HS:=hid (zim ok0 fs i hlt);have hbo:w.heap.size<wo.heap.size:=by have:=hxo.size;omega
    have hbn : ¬ w.heap.size=wo.heap.size:=by omega
    generalize hfx:fs[i]=f at d0 d1 d2 d3 hs1 hfi hs2 HS;have HFX:=hid hfx;obtain⟨fn,ft,fi,fx⟩:=f;dsimp only at d0 d1 d2 d3 hs1 hs2 HS;have hfi1:=hfi.1;have hfi2:=hfi.2;dsimp only at hfi1 hfi2;clear hfx hfi;have hmin:i<=16\/16<i:=by omega
    rcases hmin with hm|hm
    ·have hmi:min i 16=i:=by omega
     rw[hmi]at HS;have hml:i<=fs.length:=by omega
     clear hmi;go_wp2_with fail;clear hc2 d0 d1 d2 d3;have hxb:Ext wo (wo.alloc (.cells #[.string fn,.bool ft,.int .i64 fi,.string fx] 120)):=(Ext.refl wo).alloc _;have f0:(wo.alloc (.cells #[.string fn,.bool ft,.int .i64 fi,.string fx] 120)).cell? ⟨wo.heap.size,0,none⟩=some (.string fn):=by simp[go_sem]
     have f1:(wo.alloc (.cells #[.string fn,.bool ft,.int .i64 fi,.string fx] 120)).cell? ⟨wo.heap.size,1,none⟩=some (.bool ft):=by simp[go_sem]
     have f2:(wo.alloc (.cells #[.string fn,.bool ft,.int .i64 fi,.string fx] 120)).cell? ⟨wo.heap.size,2,none⟩=some (.int .i64 fi):=by simp[go_sem]
     have f3:(wo.alloc (.cells #[.string fn,.bool ft,.int .i64 fi,.string fx] 120)).cell? ⟨wo.heap.size,3,none⟩=some (.string fx):=by simp[go_sem]
     obtain⟨wb,hwb⟩ : ∃ wb,wb=wo.alloc (.cells #[.string fn,.bool ft,.int .i64 fi,.string fx] 120):=⟨_,rfl⟩
     have hbw:wo.heap.size<wb.heap.size:=by rw[hwb];simp
     rw[<-hwb]at hxb f0 f1 f2 f3 ⊢;clear hwb;have F0:=hid f0;have F1:=hid f1;have F2:=hid f2;have F3:=hid f3;clear f0 f1 f2 f3;go_loopw [3,41] (fun u3 u41 wr=>∃ j:Nat,j<=i/\u41 = .int .i64 j/\u3 = .bool (okTo ok0 fs i && vu fs i fn j)/\Ext wb wr) (fun _ j _=>i-(intOf j).toNat);case atStart=>exact⟨0,by omega,rfl,by simp[vu],Ext.refl _⟩
     case round=>
      obtain⟨j,hj,rfl,rfl,hxr⟩:=hrel;by_cases hjm:j<i
      ·have hjl:j<fs.length:=by omega
       obtain⟨g',o',cap',e,hg',-,d0,d1,d2,d3,hs1',hfi',hs2'⟩:=(HF.out.ext (hxc.trans (hxo.trans (hxb.trans hxr)))).atF j hjl;simp only[Value.slice.injEq,Option.some.injEq,Addr.mk.injEq,and_true,true_and]at e;obtain⟨⟨rfl,rfl⟩,rfl⟩:=e;have f0:=Ext.cellS hxr F0.out;have hcs:=zg5 fs i fn j hjl;generalize fs[j]=k at d0 d1 d2 d3 hs1' hs2' hcs;obtain⟨kn,kt,ki,kx⟩:=k;dsimp only at d0 d1 d2 d3 hs1' hs2' hcs;have HCS:=hid hcs;clear hcs hfi';have hrb:=hxr.size;have hrl:wo.heap.size<wr.heap.size:=by omega
       have hrn : ¬ wo.heap.size=wr.heap.size:=by omega
       cases hB:(okTo ok0 fs i && vu fs i fn j)
       ·have HB:=hid hB;clear hB;go_wp2_with fail;go_roundw;case rel=>exact⟨j+1,by omega,by go_num,by rw[HCS.out,<-Bool.and_assoc,HB.out];rfl,by(exact Ext.xt)⟩
        case measure=>simp[intOf];omega
       ·have HB:=hid hB;clear hB;go_wp2_with fail;go_roundw;case rel=>exact⟨j+1,by omega,by go_num,by rw[HCS.out,<-Bool.and_assoc,HB.out,Bool.true_and,<-zmo],by(exact Ext.xt)⟩
        case measure=>simp[intOf];omega
      ·obtain rfl:i=j:=by omega
       have hrb:=hxr.size;have hrl:wo.heap.size<wr.heap.size:=by omega
       have f0:=Ext.cellS hxr F0.out;have f1:=Ext.cellS hxr F1.out;have f2:=Ext.cellS hxr F2.out;have f3:=Ext.cellS hxr F3.out;have hxall:Ext wc wr:=hxo.trans (hxb.trans hxr);rw[<-Bool.and_assoc]at HS;cases hB:(okTo ok0 fs i && vu fs i fn i)
       ·have HB:=hid hB;clear hB;go_wp2_with fail;go_roundw;case rel=>exact⟨i+1,by omega,by go_num,by rw[HS.out,HB.out];rfl,hxall⟩
        case measure=>simp[intOf];omega
       ·have HB:=hid hB;clear hB;have hfo:=zge fn ft fi fx;cases hnk:yn fn
        ·rw[hnk]at hfo;have HFO:=hid hfo;have HNK:=hid hnk;clear hfo hnk;go_wp2_with ((go_at_call 42;refine(qf _ fn hs1).mono ?_;rw[HNK.out];rintro e w' ⟨rfl,rfl⟩))
         go_roundw;case rel=>exact⟨i+1,by omega,by go_num,by rw[HS.out,HB.out,HFO.out];rfl,hxall⟩
         case measure=>simp[intOf];omega
        ·rw[hnk]at hfo;have HFO:=hid hfo;have HNK:=hid hnk;clear hfo hnk;cases ft
         ·by_cases hz:fx.size=0
          ·have z1:=zc7 hz;have HZ:=hid hz;clear hz;go_wp2_with ((go_at_call 42;refine(qf _ fn hs1).mono ?_;rw[HNK.out];rintro e w' ⟨rfl,rfl⟩))
           go_roundw;case rel=>exact⟨i+1,by omega,by go_num,by rw[HS.out,HB.out,HFO.out];simp[HZ.out],hxall⟩
           case measure=>simp[intOf];omega
          ·have z1:=zc8 hz;have z2:=zfb hz;have HZ:=hid hz;clear hz;go_wp2_with ((go_at_call 42;refine(qf _ fn hs1).mono ?_;rw[HNK.out];rintro e w' ⟨rfl,rfl⟩))
           go_roundw;case rel=>exact⟨i+1,by omega,by go_num,by rw[HS.out,HB.out,HFO.out];simp[HZ.out],hxall⟩
           case measure=>simp[intOf];omega
         ·by_cases hz:fx.size<=200
          ·have hzi:decide ((fx.size:Int)<=200)=true:=decide_eq_true (by omega);by_cases hf0:fi=0
           ·subst hf0;go_wp2_with ((go_at_call 42;refine(qf _ fn hs1).mono ?_;rw[HNK.out];rintro e w' ⟨rfl,rfl⟩))
            go_roundw;case rel=>exact⟨i+1,by omega,by go_num,by rw[HS.out,HB.out,HFO.out];simp[hz],hxall⟩
            case measure=>simp[intOf];omega
           ·have hf1:((fi:Int) == 0)=false:=by simpa using hf0
            have HF0:=hid hf0;clear hf0;go_wp2_with ((go_at_call 42;refine(qf _ fn hs1).mono ?_;rw[HNK.out];rintro e w' ⟨rfl,rfl⟩))
            go_roundw;case rel=>exact⟨i+1,by omega,by go_num,by rw[HS.out,HB.out,HFO.out];simp[HF0.out],hxall⟩
            case measure=>simp[intOf];omega
          ·have hzi:decide ((fx.size:Int)<=200)=false:=decide_eq_false (by omega);go_wp2_with ((go_at_call 42;refine(qf _ fn hs1).mono ?_;rw[HNK.out];rintro e w' ⟨rfl,rfl⟩))
           go_roundw;case rel=>exact⟨i+1,by omega,by go_num,by rw[HS.out,HB.out,HFO.out];simp[hz],hxall⟩
           case measure=>simp[intOf];omega
    ·have hmi:min i 16=16:=by omega
     rw[hmi]at HS;have hml:16<=fs.length:=by omega
     clear hmi;go_wp2_with fail;clear hc2 d0 d1 d2 d3;have hxb:Ext wo (wo.alloc (.cells #[.string fn,.bool ft,.int .i64 fi,.string fx] 120)):=(Ext.refl wo).alloc _;have f0:(wo.alloc (.cells #[.string fn,.bool ft,.int .i64 fi,.string fx] 120)).cell? ⟨wo.heap.size,0,none⟩=some (.string fn):=by simp[go_sem]
     have f1:(wo.alloc (.cells #[.string fn,.bool ft,.int .i64 fi,.string fx] 120)).cell? ⟨wo.heap.size,1,none⟩=some (.bool ft):=by simp[go_sem]
     have f2:(wo.alloc (.cells #[.string fn,.bool ft,.int .i64 fi,.string fx] 120)).cell? ⟨wo.heap.size,2,none⟩=some (.int .i64 fi):=by simp[go_sem]
     have f3:(wo.alloc (.cells #[.string fn,.bool ft,.int .i64 fi,.string fx] 120)).cell? ⟨wo.heap.size,3,none⟩=some (.string fx):=by simp[go_sem]
     obtain⟨wb,hwb⟩ : ∃ wb,wb=wo.alloc (.cells #[.string fn,.bool ft,.int .i64 fi,.string fx] 120):=⟨_,rfl⟩
     have hbw:wo.heap.size<wb.heap.size:=by rw[hwb];simp
     rw[<-hwb]at hxb f0 f1 f2 f3 ⊢;clear hwb;have F0:=hid f0;have F1:=hid f1;have F2:=hid f2;have F3:=hid f3;clear f0 f1 f2 f3;go_loopw [3,41] (fun u3 u41 wr=>∃ j:Nat,j<=16/\u41 = .int .i64 j/\u3 = .bool (okTo ok0 fs i && vu fs i fn j)/\Ext wb wr) (fun _ j _=>16-(intOf j).toNat);case atStart=>exact⟨0,by omega,rfl,by simp[vu],Ext.refl _⟩
     case round=>
      obtain⟨j,hj,rfl,rfl,hxr⟩:=hrel;by_cases hjm:j<16
      ·have hjl:j<fs.length:=by omega
       obtain⟨g',o',cap',e,hg',-,d0,d1,d2,d3,hs1',hfi',hs2'⟩:=(HF.out.ext (hxc.trans (hxo.trans (hxb.trans hxr)))).atF j hjl;simp only[Value.slice.injEq,Option.some.injEq,Addr.mk.injEq,and_true,true_and]at e;obtain⟨⟨rfl,rfl⟩,rfl⟩:=e;have f0:=Ext.cellS hxr F0.out;have hcs:=zg5 fs i fn j hjl;generalize fs[j]=k at d0 d1 d2 d3 hs1' hs2' hcs;obtain⟨kn,kt,ki,kx⟩:=k;dsimp only at d0 d1 d2 d3 hs1' hs2' hcs;have HCS:=hid hcs;clear hcs hfi';have hrb:=hxr.size;have hrl:wo.heap.size<wr.heap.size:=by omega
       have hrn : ¬ wo.heap.size=wr.heap.size:=by omega
       cases hB:(okTo ok0 fs i && vu fs i fn j)
       ·have HB:=hid hB;clear hB;go_wp2_with fail;go_roundw;case rel=>exact⟨j+1,by omega,by go_num,by rw[HCS.out,<-Bool.and_assoc,HB.out];rfl,by(exact Ext.xt)⟩
        case measure=>simp[intOf];omega
       ·have HB:=hid hB;clear hB;go_wp2_with fail;go_roundw;case rel=>exact⟨j+1,by omega,by go_num,by rw[HCS.out,<-Bool.and_assoc,HB.out,Bool.true_and,<-zmo],by(exact Ext.xt)⟩
        case measure=>simp[intOf];omega
      ·obtain rfl:j=16:=by omega
       have hrb:=hxr.size;have hrl:wo.heap.size<wr.heap.size:=by omega
       have f0:=Ext.cellS hxr F0.out;have f1:=Ext.cellS hxr F1.out;have f2:=Ext.cellS hxr F2.out;have f3:=Ext.cellS hxr F3.out;have hxall:Ext wc wr:=hxo.trans (hxb.trans hxr);rw[<-Bool.and_assoc]at HS;cases hB:(okTo ok0 fs i && vu fs i fn 16)
       ·have HB:=hid hB;clear hB;go_wp2_with fail;go_roundw;case rel=>exact⟨i+1,by omega,by go_num,by rw[HS.out,HB.out];rfl,hxall⟩
        case measure=>simp[intOf];omega
       ·have HB:=hid hB;clear hB;have hfo:=zge fn ft fi fx;cases hnk:yn fn
        ·rw[hnk]at hfo;have HFO:=hid hfo;have HNK:=hid hnk;clear hfo hnk;go_wp2_with ((go_at_call 42;refine(qf _ fn hs1).mono ?_;rw[HNK.out];rintro e w' ⟨rfl,rfl⟩))
         go_roundw;case rel=>exact⟨i+1,by omega,by go_num,by rw[HS.out,HB.out,HFO.out];rfl,hxall⟩
         case measure=>simp[intOf];omega
        ·rw[hnk]at hfo;have HFO:=hid hfo;have HNK:=hid hnk;clear hfo hnk;cases ft
         ·by_cases hz:fx.size=0
          ·have z1:=zc7 hz;have HZ:=hid hz;clear hz;go_wp2_with ((go_at_call 42;refine(qf _ fn hs1).mono ?_;rw[HNK.out];rintro e w' ⟨rfl,rfl⟩))
           go_roundw;case rel=>exact⟨i+1,by omega,by go_num,by rw[HS.out,HB.out,HFO.out];simp[HZ.out],hxall⟩
           case measure=>simp[intOf];omega
          ·have z1:=zc8 hz;have z2:=zfb hz;have HZ:=hid hz;clear hz;go_wp2_with ((go_at_call 42;refine(qf _ fn hs1).mono ?_;rw[HNK.out];rintro e w' ⟨rfl,rfl⟩))
           go_roundw;case rel=>exact⟨i+1,by omega,by go_num,by rw[HS.out,HB.out,HFO.out];simp[HZ.out],hxall⟩
           case measure=>simp[intOf];omega
         ·by_cases hz:fx.size<=200
          ·have hzi:decide ((fx.size:Int)<=200)=true:=decide_eq_true (by omega);by_cases hf0:fi=0
           ·subst hf0;go_wp2_with ((go_at_call 42;refine(qf _ fn hs1).mono ?_;rw[HNK.out];rintro e w' ⟨rfl,rfl⟩))
            go_roundw;case rel=>exact⟨i+1,by omega,by go_num,by rw[HS.out,HB.out,HFO.out];simp[hz],hxall⟩
            case measure=>simp[intOf];omega
           ·have hf1:((fi:Int) == 0)=false:=by simpa using hf0
            have HF0:=hid hf0;clear hf0;go_wp2_with ((go_at_call 42;refine(qf _ fn hs1).mono ?_;rw[HNK.out];rintro e w' ⟨rfl,rfl⟩))
            go_roundw;case rel=>exact⟨i+1,by omega,by go_num,by rw[HS.out,HB.out,HFO.out];simp[HF0.out],hxall⟩
            case measure=>simp[intOf];omega
          ·have hzi:decide ((fx.size:Int)<=200)=false:=decide_eq_false (by omega);go_wp2_with ((go_at_call 42;refine(qf _ fn hs1).mono ?_;rw[HNK.out];rintro e w' ⟨rfl,rfl⟩))
           go_roundw;case rel=>exact⟨i+1,by omega,by go_num,by rw[HS.out,HB.out,HFO.out];simp[hz],hxall⟩
           case measure=>simp[intOf];omega
   ·obtain rfl:i=fs.length:=by omega
    cases hE:evOk (t,n,fs)
    ·have HEE:=hid (HCK.out.trans hE);have HC13:=hid (show jc (t,n,fs)=13 by unfold jc;rw[hE];rfl);clear hE;rw[HEE.out];go_wp2_with fail;go_ret;exact⟨by rw[HC13.out];rfl,hxc.trans hxo⟩
    ·have HEE:=hid (HCK.out.trans hE);have HC13:=hid (show jc (t,n,fs)=0 by unfold jc;rw[hE];rfl);clear hE;rw[HEE.out];go_wp2_with fail;go_ret;exact⟨by rw[HC13.out];rfl,hxc.trans hxo⟩
end
section
open Go.RowKit
theorem zu8 {w w':World}{S S':Nat->Prop}{cs:List Value}{f:Fld} (h:rF.rd w S cs f):rF.rd w' S' cs f:=by
 obtain⟨rfl,h1,h2,h3⟩:=zke h;exact⟨[_],_,rfl,⟨rfl,h1⟩,[_],_,rfl,rfl,[_],_,rfl,⟨rfl,h2⟩,⟨rfl,h3⟩⟩
theorem RdS.stsrc {α:Type}{r:Rdr α}{w:World}{S:Nat->Prop}{v:Value}{xs:List α}{tx t:TypeId} (hu:Tryz.prog.underlying tx=some (.slice t)) (h:RdS r w S v xs) : ∃ gs:List (List Value × α),xs=gs.map (·.2)/\Src Tryz.prog r.size tx v gs.length (cellsOf gs) w/\∀ p∈gs,r.rd w S p.1 p.2:=by
 obtain⟨v',gs,e,rfl,h1,h2,h3⟩:=h;obtain rfl:=List.singleton_inj.1 e;refine⟨gs,rfl,zb5 hu h1 (fun u hu=>?_),h3⟩;obtain⟨p,hp,hu⟩:=List.mem_flatMap.1 hu;exact r.one (h3 p hp) u hu
theorem OwnS.stmade {α:Type} (r:Rdr α) (t:TypeId) (w:World) (S:Nat->Prop) (hS : ¬ S w.heap.size):OwnS r t (w.alloc (.cells #[] t)) w.heap.size S (.slice (some ⟨w.heap.size,0,none⟩) 0 0) []:=
 ⟨[],rfl,World.ownsRow_made w #[] 0 (Nat.le_refl _) (by simp[maxLen]) (by simp),fun k hk=>by simp only[Value.ownBlock,Option.map_some,Option.some.injEq]at hk;subst hk;exact hS,by simp⟩
theorem zo9 (w:World) (S:Nat->Prop) (v:Value) (fs:List Fld) (h:RdS rF w S v fs) (hl:fs.length<=1000000) :
  Calls Tryz.prog 97 #[v] w fun e w'=>∃ v',e = .returned v'/\OwnS rF 120 w' w.heap.size (fun _=>False) v' fs/\Ext w w':=by
 have hnil:=fun w=>Lib.run_eql_slice_nil (P:=Tryz.prog) w;obtain⟨a,cap,rfl,hc1,hc2⟩:=h.slice;have H:=hid h;cases a with
 | none=>
  have h0:fs=[]:=by
   cases fs with
   | nil=>rfl
   | cons f fs=>obtain⟨g,o,cap',cs,e,_⟩:=h.at 0 (by simp);simp at e
  subst h0;clear h;go_enter Tryz.func97,Tryz.ntmps97;go_wp2_with fail;go_ret;exact⟨_,rfl,OwnS.nil _ _ _ _ _,Ext.refl _⟩
 | some a=>
  obtain⟨gs,hgs,hsrc,hall⟩:=(h.ext ((Ext.refl w).alloc (.cells #[] 120))).stsrc Tryz.underlying56;have HG:=hid hgs;have hgl:gs.length=fs.length:=by rw[hgs,List.length_map]
  have HSRC:=hid hsrc;have HALL:=hid hall;have HGL:=hid hgl;have HA:=OwnS.stmade rF 120 w (fun _=>False) (fun h=>h);clear h hgs hsrc hall hgl;go_enter Tryz.func97,Tryz.ntmps97;go_wp2_with (at_builtin;go_must (refine vw rF rfl _ _ _ _ _ _ 48 rfl Tryz.underlying56 zm1 rfl w.heap.size _ _ [] rfl HA _ gs rfl HSRC.out (fun p hp=>zu8 (HALL.out p hp)) (fun _ h=>h.elim) (by rw[HGL.out];simp;omega) (by rw[HGL.out];simp;omega) (by simp) ?_;intro v' w' k1 k2 k3;rw[List.nil_append,<-HG.out]at k1))
  go_ret;exact⟨_,rfl,k1,((Ext.refl w).alloc _).grown k2 (fun k hk=>by cases hk;exact Nat.le_refl _)⟩
theorem zlo {w:World}{g:Nat}{a b c v0 v1 v2:Value}{t:TypeId} (h:w.heap[g]? = some (.cells #[a,b,c] t (0,0))) :
  ((((w.setCell ⟨g,0,none⟩ v0).setCell ⟨g,1,none⟩ v1).setCell ⟨g,2,none⟩ v2).cell? ⟨g,0,none⟩=some v0)/\
  ((((w.setCell ⟨g,0,none⟩ v0).setCell ⟨g,1,none⟩ v1).setCell ⟨g,2,none⟩ v2).cell? ⟨g,1,none⟩=some v1)/\
  ((((w.setCell ⟨g,0,none⟩ v0).setCell ⟨g,1,none⟩ v1).setCell ⟨g,2,none⟩ v2).cell? ⟨g,2,none⟩=some v2):=by
 have hr:=zu (o:=2) (zu (o:=1) (zu (o:=0) h v0) v1) v2;exact⟨(cr _ hr),(cr _ hr),(cr _ hr)⟩
theorem zod {S:Nat->Prop}{a w:World}{g:Nat}{v0 v1 v2:Value} (h:Keep S a w) (hg : ¬ S g):Keep S a (((w.setCell ⟨g,0,none⟩ v0).setCell ⟨g,1,none⟩ v1).setCell ⟨g,2,none⟩ v2):=
 ((h.setCell hg _).setCell hg _).setCell hg _
theorem zhq (w:World) (S:Nat->Prop) (t:ByteArray) (n:Int) (fv:Value) (fs:List Fld) (hf:RdS rF w S fv fs) (hl:fs.length<=1000000) :
  Calls Tryz.prog 56 #[.agg #[.string t,.int .i64 n,fv]] w fun e w'=>∃ fv',e = .returned (.agg #[.string t,.int .i64 n,fv'])/\RdSO rF 120 w' (fun k=>w.heap.size<=k) fv' fs/\Ext w w':=by
 obtain⟨fa,fc,rfl,hfc1,hfc2⟩:=hf.slice;have HF:=hid hf;clear hf;go_enter Tryz.func56,Tryz.ntmps56;go_wp2_with fail;obtain⟨wz,hwz⟩ : ∃ wz,wz=w.alloc (.cells #[.string t,.int .i64 n,.slice fa fs.length fc] 58):=⟨_,rfl⟩
 obtain⟨wa,hwa⟩ : ∃ wa,wa=wz.alloc (.cells #[.string ⟨#[]⟩,.int .i64 0,.slice none 0 0] 58):=⟨_,rfl⟩
 have hz1:wz.heap.size=w.heap.size+1:=by rw[hwz];simp
 have ha1:wa.heap.size=w.heap.size+2:=by rw[hwa];simp[hz1]
 have hxz:Ext w wz:=by rw[hwz];exact(Ext.refl w).alloc _
 have hxa:Ext wz wa:=by rw[hwa];exact(Ext.refl wz).alloc _
 have hrz:wa.heap[w.heap.size]? = some (.cells #[.string t,.int .i64 n,.slice fa fs.length fc] 58 (0,0)):=(Below.block hxa _ (by omega)).trans (by rw[hwz];exact heap_alloc_new _ _);have hra:wa.heap[w.heap.size+1]? = some (.cells #[.string ⟨#[]⟩,.int .i64 0,.slice none 0 0] 58 (0,0)):=by rw[hwa,<-hz1];exact heap_alloc_new _ _
 rw[<-hwz,<-hwa];refine(zo9 wa S _ fs (HF.out.ext (hxz.trans hxa)) hl).mono ?_;rintro e w1 ⟨v1,rfl,ho1,hx1⟩;have hrz1:=(Below.block hx1 w.heap.size (by omega)).trans hrz;have hra1:=(Below.block hx1 (w.heap.size+1) (by omega)).trans hra;have HO:=hid ho1.rdO;have HOL:=hid (fun k hk=>(ho1.lt k hk).1);have HX:=hid ((hxz.trans hxa).trans hx1);have HS:=hid ha1;obtain⟨a1,c1,rfl⟩:=ho1.slice;obtain⟨g,hg⟩ : ∃ g,g=w.heap.size:=⟨_,rfl⟩
 obtain⟨g1,hg1⟩ : ∃ g1,g1=w.heap.size+1:=⟨_,rfl⟩
 have hgg : ¬ g=g1:=by omega
 have hgg' : ¬ g1=g:=by omega
 rw[<-hg1]at hra1 ⊢;rw[<-hg]at hrz1 ⊢;have HRZ:=hid hrz1;have HRA:=hid hra1;have x0:w1.cell? ⟨g,0,none⟩=some (.string t):=(cr _ hrz1)
 have x1:w1.cell? ⟨g,1,none⟩=some (.int .i64 n):=(cr _ hrz1)
 have x2:w1.cell? ⟨g,2,none⟩=some (.slice fa fs.length fc):=(cr _ hrz1)
 have y0:=zc hrz1 2;have y1:=zc hra1 0;have y2:=zc hra1 1;have y3:=zc hra1 2;have z0:w1.cell? ⟨g1,0,none⟩=some (.string ⟨#[]⟩):=(cr _ hra1)
 have z1:w1.cell? ⟨g1,1,none⟩=some (.int .i64 0):=(cr _ hra1)
 have z2:w1.cell? ⟨g1,2,none⟩=some (.slice none 0 0):=(cr _ hra1)
 have HG:=hid (show g=w.heap.size/\g1=w.heap.size+1 from⟨hg,hg1⟩);clear hwz hwa hz1 ha1 hxz hxa hrz hra hrz1 hra1 hx1 ho1 hg hg1;have HE:=hid (show (w1.setCell ⟨g,2,none⟩ (.slice a1 fs.length c1)).heap[g1]? = some (.cells #[.string ⟨#[]⟩,.int .i64 0,.slice none 0 0] 58 (0,0)) from ((Keep.setCell (S:=fun k=>k≠g) (Keep.refl _ w1) (by simp) _).block g1 hgg' (blt HRA.out)).trans HRA.out);go_wp2_with fail;obtain⟨q0,q1,q2⟩:=zlo (v0:=.string t) (v1:=.int .i64 n) (v2:=.slice a1 fs.length c1) HE.out;refine bodyPost_ret (v:=.agg #[.string t,.int .i64 n,.slice a1 fs.length c1]) (by simp[results,Tryz.results56,go_sem,q0,q1,q2]) rfl ⟨_,rfl,?_,?_⟩
 ·refine(HO.out.kept (zod ((Keep.refl _ w1).setCell ?_ _) ?_)).mono (fun k hk _=>?_)
  ·intro h;rcases h with h|h
   ·exact h
   ·have:_<=g:=HOL.out _ h;have:=HG.out;have:=HS.out;omega
  ·intro h;rcases h with h|h
   ·exact h
   ·have:_<=g1:=HOL.out _ h;have:=HG.out;have:=HS.out;omega
  ·rcases hk with h|h
   ·exact h.elim
   ·have:=HOL.out _ h;have:=HG.out;have:=HS.out;omega
 ·have e1:w.heap.size<=g:=by have:=HG.out;omega
  have e2:w.heap.size<=g1:=by have:=HG.out;omega
  exact(((HX.out.setCell (p:=⟨g,2,none⟩) e1 _).setCell (p:=⟨g1,0,none⟩) e2 _).setCell (p:=⟨g1,1,none⟩) e2 _).setCell (p:=⟨g1,2,none⟩) e2 _
theorem zgr (w:World) (s k:ByteArray) (hs:s.size<=9223372036854775807) (hk:k.size<=9223372036854775807) :
  Calls Tryz.prog 39 #[.string s,.string k] w fun e w'=>e = .returned (.bool (kc s k))/\w=w':=by
 by_cases h:s.size=0
 ·have h1:=zc7 h;have HN:=hid (show kc s k=false by unfold kc yn;rw[Bool.and_eq_false_iff];left;rw[decide_eq_false];omega);clear h;go_enter Tryz.func39,Tryz.ntmps39;go_wp2_with fail;go_ret;exact⟨by rw[HN.out];rfl,rfl⟩
 ·have h1:=zc8 h;have h2:=zfb h;have HN:=hid (show kc s k=(decide ((s.size:Int)<=60) && decide ((k.size:Int)<=60)) by unfold kc yn;rw[Bool.eq_iff_iff];simp;omega);clear h;by_cases h3:(s.size:Int)<=60;all_goals
   go_enter Tryz.func39,Tryz.ntmps39;go_wp2_with fail;go_ret;exact⟨zap (by rw[HN.out];first|(simp[h3];done)|(rw[Bool.eq_iff_iff];simp;omega)),rfl⟩
theorem zwa (w:World):Calls Tryz.prog 30 #[] w fun e w'=>∃ g,e = .returned (.pointer (some ⟨g,0,none⟩))/\(∃ ρ,IxAt w' g ρ 0 0 ix0/\(∀ k,ρ k≠none->w.heap.size<=k))/\Ext w w':=by
 have hmm:= @run_makeMap Tryz.prog;go_enter Tryz.func30,Tryz.ntmps30;go_wp2_with fail;obtain⟨wa,hwa⟩ : ∃ wa,wa=w.alloc (.map #[] 0):=⟨_,rfl⟩
 obtain⟨wb,hwb⟩ : ∃ wb,wb=wa.alloc (.map #[] 0):=⟨_,rfl⟩
 obtain⟨wc,hwc⟩ : ∃ wc,wc=wb.alloc (.cells #[.slice none 0 0,.map (some w.heap.size),.map (some (w.heap.size+1))] 111):=⟨_,rfl⟩
 have sa:wa.heap.size=w.heap.size+1:=by rw[hwa];simp
 have sb:wb.heap.size=w.heap.size+2:=by rw[hwb];simp[sa]
 have sc:wc.heap.size=w.heap.size+3:=by rw[hwc];simp[sb]
 have xa:Ext w wa:=by rw[hwa];exact(Ext.refl w).alloc _
 have xb:Ext wa wb:=by rw[hwb];exact(Ext.refl wa).alloc _
 have xc:Ext wb wc:=by rw[hwc];exact(Ext.refl wb).alloc _
 have ma:MapG kStr wc w.heap.size 0 (fun _=>none):=((show MapG kStr wa w.heap.size 0 (fun _=>none) by rw[hwa];exact MapG.made kStr w).ext xb).ext xc;have mb:MapG kStr wc (w.heap.size+1) 0 (fun _=>none):=(show MapG kStr wb (w.heap.size+1) 0 (fun _=>none) by rw[hwb,<-sa];exact MapG.made kStr wa).ext xc;have hr:wc.heap[w.heap.size+2]? = some (.cells #[.slice none 0 0,.map (some w.heap.size),.map (some (w.heap.size+1))] 111 (0,0)):=by rw[hwc,<-sb];exact heap_alloc_new _ _
 rw[<-hwa,<-hwb,<-hwc];clear hwa hwb hwc;go_ret;refine⟨w.heap.size+2,rfl,⟨fun k=>if k=w.heap.size then some .smap else if k=w.heap.size+1 then some .kmap else if k=w.heap.size+2 then some .idx else none,⟨.slice none 0 0,w.heap.size,w.heap.size+1,fun _=>none,fun _=>none,?_⟩,fun k hk=>?_⟩,(xa.trans xb).trans xc⟩
 ·exact {
   head:=hr
   rg:=by simp
   all:=OwnS.nil _ _ _ _ _
   rall:=fun k hk=>by simp[Value.ownBlock]at hk
   str:=ma
   rs:=by simp
   strs:=fun s hs=>OwnS.nil _ _ _ _ _
   rstr:=fun s hs k hk=>by simp[jo,Value.ownBlock]at hk
   has:=fun s hs=>by simp[ix0]
   key:=mb
   rk:=by simp
   keys:=fun s hs=>rfl
   lt:=fun k hk=>by
    try simp only at hk
    split at hk
    ·omega
    ·split at hk
     ·omega
     ·split at hk
      ·omega
      ·exact absurd rfl hk }
 ·try simp only at hk
  split at hk
  ·omega
  ·split at hk
   ·omega
   ·split at hk
    ·omega
    ·exact absurd rfl hk
theorem zic (w:World) (S:Nat->Prop) (lv:Value) (l:List Ev) (hl:RdS rE w S lv l) (hle:l.length<=9223372036854775807) :
  Calls Tryz.prog 40 #[lv] w fun e w'=>e = .returned (.bool (qs l))/\Ext w w':=by
 obtain⟨la,lc,rfl,-,-⟩:=hl.slice;have HL:=hid hl;clear hl;go_enter Tryz.func40,Tryz.ntmps40;go_wp2_with fail;go_loopw [7] (fun u7 wr=>∃ i:Nat,u7 = .int .i64 i/\i<=l.length/\(∀ j (hj:j<l.length),j<i->evOk l[j]=true)/\Ext w wr) (fun u7 _=>l.length-(intOf u7).toNat);case atStart=>exact⟨0,rfl,Nat.zero_le _,fun j hj h=>by omega,Ext.refl _⟩
 case round=>
  obtain⟨wo,rfl⟩ : ∃ wo:World,wo=wr:=⟨_,rfl⟩
  obtain⟨i,rfl,hi,hok,hx⟩:=hrel;have HOK:=hid hok;have HX:=hid hx;clear hok;by_cases hlt:i<l.length
  ·obtain⟨g,o,cap,fv,e,hg,-,d0,d1,d2,h1,h2,h3⟩:=(HL.out.ext hx).atE i hlt;simp only[Value.slice.injEq]at e;obtain⟨rfl,-,rfl⟩:=e;obtain⟨fa,fc,rfl,-,-⟩:=h3.slice;generalize hev:l[i]=ev at d0 d1 d2 h1 h2 h3;have HEV:=hid hev;obtain⟨t,n,fs⟩:=ev;dsimp only at d0 d1 d2 h1 h2 h3;have H3:=hid h3;clear hev h3 hx;by_cases hev:evOk (t,n,fs)=true
   ·have HC:=hid (show jc (t,n,fs)=0 by unfold jc;rw[if_pos hev]);have HV:=hid hev;clear hev;go_wp2_with (go_at_call 43;go_must (refine(zcy _ S t n _ fs h1 h2 (H3.out.ext (by(exact Ext.xt)))).mono ?_;rw[HC.out];rintro e w1 ⟨rfl,hb1⟩;have hx1:=Ext.of hb1;clear hb1))
    go_roundw;case rel=>exact⟨i+1,by go_num,by omega,fun j hj h=>by
     by_cases hji:j<i
     ·exact HOK.out j hj hji
     ·obtain rfl:j=i:=by omega
      rw[HEV.out];exact HV.out,HX.out.trans (show Ext wo _ by(exact Ext.xt))⟩
    case measure=>simp[intOf];omega
   ·have HC:=hid (show jc (t,n,fs)=13 by unfold jc;rw[if_neg hev]);have HR:=hid (show qs l=false by
     unfold qs;rw[Bool.and_eq_false_iff];left;rw[List.all_eq_false];exact⟨l[i],List.getElem_mem hlt,by rw[HEV.out];exact hev⟩)
    clear hev;go_wp2_with (go_at_call 43;go_must (refine(zcy _ S t n _ fs h1 h2 (H3.out.ext (by(exact Ext.xt)))).mono ?_;rw[HC.out];rintro e w1 ⟨rfl,hb1⟩;have hx1:=Ext.of hb1;clear hb1))
    go_ret;exact⟨zap (by rw[HR.out]),HX.out.trans (show Ext wo _ by(exact Ext.xt))⟩
  ·have HR:=hid (show qs l=(decide (0<(l.length:Int)) && decide ((l.length:Int)<=16)) by
    unfold qs;rw[List.all_eq_true.2 (fun e he=>by obtain⟨j,hj,rfl⟩:=List.getElem_of_mem he;exact HOK.out j hj (by omega)),Bool.true_and,Bool.eq_iff_iff];simp;omega)
   clear hx HOK;have hil : ¬ i<l.length:=hlt;by_cases h0:0<l.length;all_goals
    go_wp2_with fail;go_ret;exact⟨zap (by rw[HR.out];first|(rw[Bool.eq_iff_iff];simp;omega)|(rw[Bool.eq_iff_iff];simp[h0])|simp),HX.out⟩
end
end Go.Proofs.YtnadlnmclameiaaGreatDoor
