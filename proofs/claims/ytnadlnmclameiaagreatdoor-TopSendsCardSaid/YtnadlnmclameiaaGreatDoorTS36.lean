/- part 36 -/
import Derived.Test.YtnadlnmclameiaaGreatDoorTS35
import Derived.Laws.StructEq
import Derived.Deep.RegionLaw
set_option maxRecDepth 100000
set_option maxHeartbeats 8000000
set_option linter.all false
namespace Go.Proofs.YtnadlnmclameiaaGreatDoor
section
open Go.RowKit
theorem zmp (a b:ByteArray):(a.toList == b.toList)=decide (a=b):=by
 rw[ByteArray.toList_eq,ByteArray.toList_eq,Bool.eq_iff_iff];simp only[beq_iff_eq,decide_eq_true_eq];constructor
 ·intro e;exact ByteArray.ext (Array.toList_inj.1 e)
 ·rintro rfl;rfl
end
section
open Go.RowKit
instance decFlds:DecidableEq (List Fld):=inferInstance
instance decEv:DecidableEq Ev:=inferInstance
instance decEvs:DecidableEq (List Ev):=inferInstance
instance decEvs1:DecidableEq (Int × List Ev):=inferInstance
instance decBat:DecidableEq Bat:=inferInstance
theorem zpk {a b:ByteArray} (h:a=b):(a.toList == b.toList)=true:=by rw[zmp];exact decide_eq_true h
theorem zei {a b:ByteArray} (h:a≠b):(a.toList == b.toList)=false:=by rw[zmp];exact decide_eq_false h
theorem zxc {f g:Fld} (h:f≠g):(f.1.toList == g.1.toList)=false\/(f.2.1 == g.2.1)=false\/(f.2.2.1 == g.2.2.1)=false\/(f.2.2.2.toList == g.2.2.2.toList)=false:=by
 by_cases h1:f.1=g.1
 ·by_cases h2:f.2.1=g.2.1
  ·by_cases h3:f.2.2.1=g.2.2.1
   ·by_cases h4:f.2.2.2=g.2.2.2
    ·exact absurd (Prod.ext h1 (Prod.ext h2 (Prod.ext h3 h4))) h
    ·exact .inr (.inr (.inr (zei h4)))
   ·exact .inr (.inr (.inl (beq_eq_false_iff_ne.2 h3)))
  ·exact .inr (.inl (beq_eq_false_iff_ne.2 h2))
 ·exact .inl (zei h1)
theorem zjf (w:World) (S T:Nat->Prop) (s t:ByteArray) (m n:Int) (va vb:Value) (fs gs:List Fld) (ha:RdS rF w S va fs) (hb:RdS rF w T vb gs) :
  Calls Tryz.prog 34 #[.agg #[.string s,.int .i64 m,va],.agg #[.string t,.int .i64 n,vb]] w fun e w'=>e = .returned (.bool (decide (((s,m,fs):Ev)=(t,n,gs))))/\Below w.heap.size w w':=by
 have HA:=hid ha;have HB:=hid hb;obtain⟨a,cap,rfl,h1,h2⟩:=ha.slice;obtain⟨b,capb,rfl,k1,k2⟩:=hb.slice;clear ha hb;have hxw:Ext w ((w.alloc (.cells #[.string s,.int .i64 m,.slice a fs.length cap] 58)).alloc (.cells #[.string t,.int .i64 n,.slice b gs.length capb] 58)):=((Ext.refl w).alloc _).alloc _;by_cases q1:s=t
 ·by_cases q2:m=n
  ·subst q1 q2;by_cases hn:fs.length=gs.length
   ·have HN:=hid hn;have hn':(fs.length:Int)=(gs.length:Int):=by omega
    have hn'':decide ((fs.length:Int)=(gs.length:Int))=true:=by simp[hn]
    clear hn;go_enter Tryz.func34,Tryz.ntmps34;go_wp2_with fail;have c2:((w.alloc (.cells #[.string s,.int .i64 m,.slice a fs.length cap] 58)).alloc (.cells #[.string s,.int .i64 m,.slice b gs.length capb] 58)).cell? ⟨w.heap.size,2,none⟩=some (.slice a fs.length cap):=by simp[go_sem]
    have d2:((w.alloc (.cells #[.string s,.int .i64 m,.slice a fs.length cap] 58)).alloc (.cells #[.string s,.int .i64 m,.slice b gs.length capb] 58)).cell? ⟨w.heap.size+1,2,none⟩=some (.slice b gs.length capb):=by simp[go_sem]
    obtain⟨wa,hwa⟩ : ∃ wa,wa=((w.alloc (.cells #[.string s,.int .i64 m,.slice a fs.length cap] 58)).alloc (.cells #[.string s,.int .i64 m,.slice b gs.length capb] 58)):=⟨_,rfl⟩
    rw[<-hwa]at c2 d2 hxw ⊢;clear hwa;have C2:=hid c2;have D2:=hid d2;have HXW:=hid hxw;clear c2 d2 hxw;go_loopw [5] (fun i wr=>∃ k:Nat,k<=fs.length/\i = .int .i64 k/\fs.take k=gs.take k/\Ext wa wr) (fun i _=>fs.length-(intOf i).toNat);case atStart=>exact⟨0,by omega,rfl,rfl,Ext.refl _⟩
    case round=>
     obtain⟨k,hk,rfl,heq,hx⟩:=hrel;have HE:=hid heq;clear heq;have c2:=Ext.cellS hx C2.out;have d2:=Ext.cellS hx D2.out;by_cases hl:k<fs.length
     ·have hl':k<gs.length:=by have:=HN.out;omega
      obtain⟨g,o,c1,e,hg,-,e0,e1,e2,e3,-⟩:=(HA.out.ext (HXW.out.trans hx)).atF k hl;simp only[Value.slice.injEq]at e;obtain⟨rfl,-,rfl⟩:=e;obtain⟨g',o',c2',e,hg',-,f0,f1,f2,f3,-⟩:=(HB.out.ext (HXW.out.trans hx)).atF k hl';simp only[Value.slice.injEq]at e;obtain⟨rfl,-,rfl⟩:=e;have T1:=hid (List.take_succ_eq_append_getElem hl);have T2:=hid (List.take_succ_eq_append_getElem hl');obtain⟨x,hx'⟩ : ∃ x,x=fs[k]:=⟨_,rfl⟩
      obtain⟨y,hy⟩ : ∃ y,y=gs[k]:=⟨_,rfl⟩
      rw[<-hx']at e0 e1 e2 e3 T1;rw[<-hy]at f0 f1 f2 f3 T2;have HX:=hid hx';have HY:=hid hy;clear hx' hy;have i1:(k:Int)<(fs.length:Int):=by omega
      have i2:(k:Int)<(gs.length:Int):=by omega
      have i3:(0:Int)<=(k:Int):=by omega
      by_cases q:x=y
      ·subst q;obtain⟨x1,x2,x3,x4⟩:=x;dsimp only at e0 e1 e2 e3 f0 f1 f2 f3;go_wp2_with fail;go_quiet (fail);go_wp2_with fail;go_roundw;case rel=>exact⟨k+1,by omega,by go_num,by rw[T1.out,T2.out,HE.out],hx.drewN _⟩
       case measure=>simp[intOf];omega
      ·have HNE:=hid (show ¬ (s,m,fs)=(s,m,gs) from fun e=>by
        simp only[Prod.mk.injEq,true_and]at e;subst e;exact q (HX.out.trans HY.out.symm))
       have hq:=zxc q;obtain⟨x1,x2,x3,x4⟩:=x;obtain⟨y1,y2,y3,y4⟩:=y;dsimp only at e0 e1 e2 e3 f0 f1 f2 f3 hq;clear q;rcases hq with hq|hq|hq|hq;all_goals
        go_wp2_with fail;go_quiet (fail);go_wp2_with fail;go_ret;refine⟨?_,HXW.out.trans (hx.drewN _)⟩;exact congrArg (fun b=>Ending.returned (.bool b)) (decide_eq_false HNE.out).symm
     ·obtain rfl:k=fs.length:=by omega
      go_wp2_with fail;go_ret;refine⟨?_,HXW.out.trans hx⟩;have:fs=gs:=by
       have:=HE.out;rwa [List.take_length,List.take_of_length_le (by have:=HN.out;omega)]at this
      simp[this]
   ·have hn' : ¬ (fs.length:Int)=(gs.length:Int):=by omega
    go_enter Tryz.func34,Tryz.ntmps34;go_wp2_with fail;go_ret;have : ¬ fs=gs:=fun e=>hn (by rw[e]);exact⟨by simp[this],hxw⟩
  ·have t2:(m == n)=false:=beq_eq_false_iff_ne.2 q2;have HNE:=hid (show ¬ (s,m,fs)=(t,n,gs) from fun e=>by simp only[Prod.mk.injEq]at e;exact q2 e.2.1);subst q1;clear q2;go_enter Tryz.func34,Tryz.ntmps34;go_wp2_with fail;go_ret;exact⟨congrArg (fun b=>Ending.returned (.bool b)) (decide_eq_false HNE.out).symm,hxw⟩
 ·have t1:=zei q1;have HNE:=hid (show ¬ (s,m,fs)=(t,n,gs) from fun e=>by simp only[Prod.mk.injEq]at e;exact q1 e.1);clear q1;go_enter Tryz.func34,Tryz.ntmps34;go_wp2_with fail;go_ret;exact⟨congrArg (fun b=>Ending.returned (.bool b)) (decide_eq_false HNE.out).symm,hxw⟩
end
section
open Go.RowKit
section
variable {w:World}{gA gB:Nat}{a0 a1 a2 a3 b0 b1 b2 b3 u0 u1 u2 u3 v0 v1 v2 v3:Value}{tA tB:TypeId}
theorem ku (hA:w.heap[gA]? = some (.cells #[a0,a1,a2,a3] tA (0,0))) (hB:w.heap[gB]? = some (.cells #[b0,b1,b2,b3] tB (0,0))) (hne : ¬ gA=gB) :
  ((((((((w.setCell ⟨gA,0,none⟩ u0).setCell ⟨gA,1,none⟩ u1).setCell ⟨gA,2,none⟩ u2).setCell ⟨gA,3,none⟩ u3).setCell ⟨gB,0,none⟩ v0).setCell ⟨gB,1,none⟩ v1).setCell ⟨gB,2,none⟩ v2).setCell ⟨gB,3,none⟩ v3).heap[gA]? = some (.cells #[u0,u1,u2,u3] tA (0,0))/\
  ((((((((w.setCell ⟨gA,0,none⟩ u0).setCell ⟨gA,1,none⟩ u1).setCell ⟨gA,2,none⟩ u2).setCell ⟨gA,3,none⟩ u3).setCell ⟨gB,0,none⟩ v0).setCell ⟨gB,1,none⟩ v1).setCell ⟨gB,2,none⟩ v2).setCell ⟨gB,3,none⟩ v3).heap[gB]? = some (.cells #[v0,v1,v2,v3] tB (0,0)):=by
 have h4:=zu (o:=3) (zu (o:=2) (zu (o:=1) (zu (o:=0) hA u0) u1) u2) u3;have hltA:=(blt h4)
 have hltB:=(blt hB)
 have hB4:=((vi (g:=gA) (S:=fun k=>k≠gA) (v0:=u0) (v1:=u1) (v2:=u2) (v3:=u3) (Keep.refl _ w) (by simp)).block gB (fun e=>hne e.symm) hltB).trans hB;have h8:=zu (o:=3) (zu (o:=2) (zu (o:=1) (zu (o:=0) hB4 v0) v1) v2) v3;exact⟨((vi (g:=gB) (S:=fun k=>k≠gB) (v0:=v0) (v1:=v1) (v2:=v2) (v3:=v3) (Keep.refl _ _) (by simp)).block gA hne hltA).trans h4,h8⟩
theorem jg {a:World} (h:Ext a w) (hA:a.heap.size<=gA) (hB:a.heap.size<=gB) :
  Ext a ((((((((w.setCell ⟨gA,0,none⟩ u0).setCell ⟨gA,1,none⟩ u1).setCell ⟨gA,2,none⟩ u2).setCell ⟨gA,3,none⟩ u3).setCell ⟨gB,0,none⟩ v0).setCell ⟨gB,1,none⟩ v1).setCell ⟨gB,2,none⟩ v2).setCell ⟨gB,3,none⟩ v3):=
 (((((((h.setCell (p:=⟨gA,0,none⟩) hA _).setCell (p:=⟨gA,1,none⟩) hA _).setCell (p:=⟨gA,2,none⟩) hA _).setCell (p:=⟨gA,3,none⟩) hA _).setCell (p:=⟨gB,0,none⟩) hB _).setCell (p:=⟨gB,1,none⟩) hB _).setCell (p:=⟨gB,2,none⟩) hB _).setCell (p:=⟨gB,3,none⟩) hB _
theorem zg4 {S:Nat->Prop} (hA : ¬ S gA) (hB : ¬ S gB) :
  Keep S w ((((((((w.setCell ⟨gA,0,none⟩ u0).setCell ⟨gA,1,none⟩ u1).setCell ⟨gA,2,none⟩ u2).setCell ⟨gA,3,none⟩ u3).setCell ⟨gB,0,none⟩ v0).setCell ⟨gB,1,none⟩ v1).setCell ⟨gB,2,none⟩ v2).setCell ⟨gB,3,none⟩ v3):=
 vi (vi (Keep.refl _ _) hA) hB
end
theorem Ext.freeS {a w:World} (h:Ext a w) {p:Addr} (hp:p.block<a.heap.size) (hf:a.frozen? p=false):w.frozen? p=false:=(Below.frozen h hp).trans hf
def zq8 (w:World) (z:Apd × (Bat × Nat)) (e:Ending) (w':World):Prop:=
 ∃ ev,e = .returned (.tuple #[.agg #[.int .i64 z.1.1,.int .i64 z.1.2.1,.int .i64 z.1.2.2.1,.bool z.1.2.2.2],.agg #[.string z.2.1.1,.string z.2.1.2.1,.int .i64 z.2.1.2.2.1,ev],.int .i64 ((z.2.2:Nat):Int)])/\RdEs w' (fun k=>w.heap.size<=k) ev z.2.1.2.2.2/\Ext w w'
theorem zed (w:World):(zeroValue 106).run Tryz.prog w = .ok (.agg #[.string ⟨#[]⟩,.int .i64 0,.int .i64 0,.int .i64 0,.bool false]) w:=by kernel_rfl
theorem zan (w:World):(zeroValue 23).run Tryz.prog w = .ok (.slice none 0 0) w:=by kernel_rfl
theorem zv2 (w:World) (g:Nat) (ρ:Nat->Option Rol) (ns nk:Nat) (x:Ix) (h:IxAt w g ρ ns nk x) (hall:x.all.length<=100000) (s:ByteArray) (hs:s.size<=9223372036854775807) (n:Int) (hn : -9223372036854775808<=n/\n<=9223372036854775807) (k:ByteArray) (hk:k.size<=9223372036854775807)
  (S:Nat->Prop) (lv:Value) (l:List Ev) (hl:RdS rE w S lv l) (hle:l.length<=9223372036854775807) (hstr:(x.str s).length<=100000) :
  Calls Tryz.prog 23 #[.pointer (some ⟨g,0,none⟩),.string s,.int .i64 n,.string k,lv] w (zq8 w (tryF x s n k l)):=by
 obtain⟨la,lc,rfl,hlc1,hlc2⟩:=hl.slice;obtain⟨va,gs,gk,ms,mk,h⟩:=h;obtain⟨aa,ac,rfl⟩:=h.all.slice;have H:=hid h;have HL:=hid hl;obtain⟨hn1,hn2⟩:=hn;have hg0:=h.glt;have c0:=h.c0;have c1:=h.c1;have c2:=h.c2;obtain⟨wz,hwz⟩ : ∃ wz,wz=w.alloc (.cells #[.int .i64 0,.int .i64 0,.int .i64 0,.bool false] 41):=⟨_,rfl⟩
 obtain⟨wa,hwa⟩ : ∃ wa,wa=wz.alloc (.cells #[.string ⟨#[]⟩,.string ⟨#[]⟩,.int .i64 0,.slice none 0 0] 68):=⟨_,rfl⟩
 have hz1:wz.heap.size=w.heap.size+1:=by rw[hwz];simp
 have ha1:wa.heap.size=w.heap.size+2:=by rw[hwa];simp[hz1]
 have hxz:Ext w wz:=by rw[hwz];exact(Ext.refl w).alloc _
 have hxa:Ext wz wa:=by rw[hwa];exact(Ext.refl wz).alloc _
 have HA:=hid (show wa.heap[w.heap.size]? = some (.cells #[.int .i64 0,.int .i64 0,.int .i64 0,.bool false] 41 (0,0)) from (Below.block hxa _ (by omega)).trans (by rw[hwz];exact heap_alloc_new _ _));have HB:=hid (show wa.heap[w.heap.size+1]? = some (.cells #[.string ⟨#[]⟩,.string ⟨#[]⟩,.int .i64 0,.slice none 0 0] 68 (0,0)) by rw[hwa,<-hz1];exact heap_alloc_new _ _);have HX:=hid (hxz.trans hxa);clear h hl c0 c1 c2;go_enter Tryz.func23,Tryz.ntmps23;go_wp2_with fail;rw[<-hwz,<-hwa];clear hwz hwa hz1 hxz hxa;obtain⟨gA,hgA⟩ : ∃ gA,gA=w.heap.size:=⟨_,rfl⟩
 obtain⟨gB,hgB⟩ : ∃ gB,gB=w.heap.size+1:=⟨_,rfl⟩
 rw[<-hgB]at HB ⊢;rw[<-hgA]at HA ⊢;have hAB : ¬ gA=gB:=by omega
 have hBA : ¬ gB=gA:=by omega
 have hgA1 : ¬ g=gA:=by omega
 have hgA2 : ¬ g=gB:=by omega
 have hgAw:w.heap.size<=gA:=by omega
 have hgBw:w.heap.size<=gB:=by omega
 have hgAa:gA<wa.heap.size:=by omega
 have hgBa:gB<wa.heap.size:=by omega
 clear hgA hgB ha1;have HP:=hid (H.out.ext HX.out);refine(zgr wa s k hs hk).mono ?_;have yA0:wa.cell? ⟨gA,0,none⟩=some (.int .i64 0):=(cr _ HA.out)
 have xA0:=zc HA.out 0;have yA1:wa.cell? ⟨gA,1,none⟩=some (.int .i64 0):=(cr _ HA.out)
 have xA1:=zc HA.out 1;have yA2:wa.cell? ⟨gA,2,none⟩=some (.int .i64 0):=(cr _ HA.out)
 have xA2:=zc HA.out 2;have yA3:wa.cell? ⟨gA,3,none⟩=some (.bool false):=(cr _ HA.out)
 have xA3:=zc HA.out 3;have yB0:wa.cell? ⟨gB,0,none⟩=some (.string ⟨#[]⟩):=(cr _ HB.out)
 have xB0:=zc HB.out 0;have yB1:wa.cell? ⟨gB,1,none⟩=some (.string ⟨#[]⟩):=(cr _ HB.out)
 have xB1:=zc HB.out 1;have yB2:wa.cell? ⟨gB,2,none⟩=some (.int .i64 0):=(cr _ HB.out)
 have xB2:=zc HB.out 2;have yB3:wa.cell? ⟨gB,3,none⟩=some (.slice none 0 0):=(cr _ HB.out)
 have xB3:=zc HB.out 3;cases hnm:kc s k
 ·have HT:=hid (show tryF x s n k l=(app0,bat0,100) by unfold tryF;rw[if_pos hnm]);rintro e w1 ⟨rfl,rfl⟩;clear hnm;go_wp2_with fail;obtain⟨qA,qB⟩:=ku (u0:=.int .i64 (0)) (u1:=.int .i64 (0)) (u2:=.int .i64 (0)) (u3:=.bool false) (v0:=.string ⟨#[]⟩) (v1:=.string ⟨#[]⟩) (v2:=.int .i64 (0)) (v3:=.slice none 0 0) HA.out HB.out hAB;have rA0:=(cr 0 qA)
  have rA1:=(cr 1 qA)
  have rA2:=(cr 2 qA)
  have rA3:=(cr 3 qA)
  have rB0:=(cr 0 qB)
  have rB1:=(cr 1 qB)
  have rB2:=(cr 2 qB)
  have rB3:=(cr 3 qB)
  refine bodyPost_ret (v:=.tuple #[.agg #[.int .i64 (0),.int .i64 (0),.int .i64 (0),.bool false],.agg #[.string ⟨#[]⟩,.string ⟨#[]⟩,.int .i64 (0),.slice none 0 0],.int .i64 100]) (by simp[results,Tryz.results23,go_sem,rA0,rA1,rA2,rA3,rB0,rB1,rB2,rB3]) rfl ⟨.slice none 0 0,by rw[HT.out];rfl,?_,jg HX.out hgAw hgBw⟩;rw[HT.out];exact RdSO.nil _ _ _ _
 ·rintro e w1 ⟨rfl,rfl⟩;have hks:k.size<=maxLen:=by unfold maxLen;omega
  have hss:s.size<=maxLen:=by unfold maxLen;omega
  have c2:=HP.out.c2;have hlk:=HP.out.key.look_ok Tryz.underlying109 (zed _) (x:=k) hks;rw[HP.out.keys k hks]at hlk;cases hkk:x.key k
  ·rw[hkk]at hlk;dsimp only[Option.map,Option.getD,Option.isSome,kStr]at hlk;have c1:=HP.out.c1;have hgne : ¬ g=wa.heap.size:=by omega
   have hgn1:g<wa.heap.size:=by omega
   have hgn2 : ¬ wa.heap.size=g:=by omega
   have hlk2:=(HP.out.ext ((Ext.refl wa).alloc (.cells #[.string ⟨#[]⟩,.int .i64 0,.int .i64 0,.int .i64 0,.bool false] 106))).str.look Tryz.underlying108 (zan _) (x:=s) hss;obtain⟨sa,sc,hsv⟩:=(HP.out.strs s hss).slice;rw[show (ms s).getD (.slice none 0 0)=_ from hsv]at hlk2;dsimp only[kStr]at hlk2;clear hsv;have HKK:=hid hkk;have HNM:=hid hnm;clear hkk hnm;go_wp2_with fail;clear yA0 xA0 yA1 xA1 yA2 xA2 yA3 xA3 yB0 xB0 yB1 xB1 yB2 xB2 yB3 xB3;refine(zic _ S _ l (HL.out.ext ?_) hle).mono ?_
   ·exact HX.out.trans (by(exact Ext.xt))
   rintro e w1 ⟨rfl,hx1⟩;have hx1:Ext wa w1:=(show Ext wa _ by(exact Ext.xt)).trans hx1;have hsz1:=hx1.size;have HAo:=HA;have HBo:=HB;have HXo:=HX;have HPo:=HP;clear HA HB HX HP;have HA:=hid ((Below.block hx1 gA hgAa).trans HAo.out);have HB:=hid ((Below.block hx1 gB hgBa).trans HBo.out);have HX:=hid (HXo.out.trans hx1);have HP:=hid (HPo.out.ext hx1);clear HAo HBo HXo HPo hlk hlk2 c1 c2;have hTT:=hid (show tryF x s n k l=if qs l=false then (app0,bat0,102) else if n < -1 then (app0,bat0,1) else if 0<=n/\n≠((x.str s).length:Int) then (app0,bat0,103) else ((((x.str s).length:Int),(x.all.length:Int),(l.length:Int),false),(s,k,((x.str s).length:Int),l),0) by unfold tryF;rw[if_neg (by rw[HNM.out];simp),HKK.out]);have yA0:w1.cell? ⟨gA,0,none⟩=some (.int .i64 0):=(cr _ HA.out)
   have xA0:=zc HA.out 0;have yA1:w1.cell? ⟨gA,1,none⟩=some (.int .i64 0):=(cr _ HA.out)
   have xA1:=zc HA.out 1;have yA2:w1.cell? ⟨gA,2,none⟩=some (.int .i64 0):=(cr _ HA.out)
   have xA2:=zc HA.out 2;have yA3:w1.cell? ⟨gA,3,none⟩=some (.bool false):=(cr _ HA.out)
   have xA3:=zc HA.out 3;have yB0:w1.cell? ⟨gB,0,none⟩=some (.string ⟨#[]⟩):=(cr _ HB.out)
   have xB0:=zc HB.out 0;have yB1:w1.cell? ⟨gB,1,none⟩=some (.string ⟨#[]⟩):=(cr _ HB.out)
   have xB1:=zc HB.out 1;have yB2:w1.cell? ⟨gB,2,none⟩=some (.int .i64 0):=(cr _ HB.out)
   have xB2:=zc HB.out 2;have yB3:w1.cell? ⟨gB,3,none⟩=some (.slice none 0 0):=(cr _ HB.out)
   have xB3:=zc HB.out 3;cases hrt:qs l
   ·have HT:=hid (hTT.out.trans (if_pos hrt));clear hrt;go_wp2_with fail;obtain⟨qA,qB⟩:=ku (u0:=.int .i64 (0)) (u1:=.int .i64 (0)) (u2:=.int .i64 (0)) (u3:=.bool false) (v0:=.string ⟨#[]⟩) (v1:=.string ⟨#[]⟩) (v2:=.int .i64 (0)) (v3:=.slice none 0 0) HA.out HB.out hAB;have rA0:=(cr 0 qA)
    have rA1:=(cr 1 qA)
    have rA2:=(cr 2 qA)
    have rA3:=(cr 3 qA)
    have rB0:=(cr 0 qB)
    have rB1:=(cr 1 qB)
    have rB2:=(cr 2 qB)
    have rB3:=(cr 3 qB)
    refine bodyPost_ret (v:=.tuple #[.agg #[.int .i64 (0),.int .i64 (0),.int .i64 (0),.bool false],.agg #[.string ⟨#[]⟩,.string ⟨#[]⟩,.int .i64 (0),.slice none 0 0],.int .i64 102]) (by simp[results,Tryz.results23,go_sem,rA0,rA1,rA2,rA3,rB0,rB1,rB2,rB3]) rfl ⟨.slice none 0 0,by rw[HT.out];rfl,?_,jg HX.out hgAw hgBw⟩;rw[HT.out];exact RdSO.nil _ _ _ _
   ·have HR:=hid (zab hrt);have hTT:=hid (hTT.out.trans (if_neg (by rw[hrt];simp)));clear hrt;by_cases hlo:n < -1
    ·have HT:=hid (hTT.out.trans (if_pos hlo));go_wp2_with fail;obtain⟨qA,qB⟩:=ku (u0:=.int .i64 (0)) (u1:=.int .i64 (0)) (u2:=.int .i64 (0)) (u3:=.bool false) (v0:=.string ⟨#[]⟩) (v1:=.string ⟨#[]⟩) (v2:=.int .i64 (0)) (v3:=.slice none 0 0) HA.out HB.out hAB;have rA0:=(cr 0 qA)
     have rA1:=(cr 1 qA)
     have rA2:=(cr 2 qA)
     have rA3:=(cr 3 qA)
     have rB0:=(cr 0 qB)
     have rB1:=(cr 1 qB)
     have rB2:=(cr 2 qB)
     have rB3:=(cr 3 qB)
     refine bodyPost_ret (v:=.tuple #[.agg #[.int .i64 (0),.int .i64 (0),.int .i64 (0),.bool false],.agg #[.string ⟨#[]⟩,.string ⟨#[]⟩,.int .i64 (0),.slice none 0 0],.int .i64 1]) (by simp[results,Tryz.results23,go_sem,rA0,rA1,rA2,rA3,rB0,rB1,rB2,rB3]) rfl ⟨.slice none 0 0,by rw[HT.out];rfl,?_,jg HX.out hgAw hgBw⟩;rw[HT.out];exact RdSO.nil _ _ _ _
    ·have hTT:=hid (hTT.out.trans (if_neg hlo));have hlo : -1<=n:=by omega
     by_cases hmm:0<=n/\n≠((x.str s).length:Int)
     ·have HT:=hid (hTT.out.trans (if_pos hmm));obtain⟨hm1,hm2⟩:=hmm;have hm3:(n == ((x.str s).length:Int))=false:=by rw[beq_eq_false_iff_ne];exact hm2
      have hm4:(n != ((x.str s).length:Int))=true:=by rw[bne_iff_ne];exact hm2
      clear hm2;go_wp2_with fail;obtain⟨qA,qB⟩:=ku (u0:=.int .i64 (0)) (u1:=.int .i64 (0)) (u2:=.int .i64 (0)) (u3:=.bool false) (v0:=.string ⟨#[]⟩) (v1:=.string ⟨#[]⟩) (v2:=.int .i64 (0)) (v3:=.slice none 0 0) HA.out HB.out hAB;have rA0:=(cr 0 qA)
      have rA1:=(cr 1 qA)
      have rA2:=(cr 2 qA)
      have rA3:=(cr 3 qA)
      have rB0:=(cr 0 qB)
      have rB1:=(cr 1 qB)
      have rB2:=(cr 2 qB)
      have rB3:=(cr 3 qB)
      refine bodyPost_ret (v:=.tuple #[.agg #[.int .i64 (0),.int .i64 (0),.int .i64 (0),.bool false],.agg #[.string ⟨#[]⟩,.string ⟨#[]⟩,.int .i64 (0),.slice none 0 0],.int .i64 103]) (by simp[results,Tryz.results23,go_sem,rA0,rA1,rA2,rA3,rB0,rB1,rB2,rB3]) rfl ⟨.slice none 0 0,by rw[HT.out];rfl,?_,jg HX.out hgAw hgBw⟩;rw[HT.out];exact RdSO.nil _ _ _ _
     ·have HT:=hid (hTT.out.trans (if_neg hmm));have hex:(n = -1)\/(0<=n/\((n == ((x.str s).length:Int))=true/\(n != ((x.str s).length:Int))=false)):=by
       by_cases h0:n = -1
       ·exact .inl h0
       ·have:n=((x.str s).length:Int):=by omega
        refine .inr ⟨by omega,?_,?_⟩
        ·rw[beq_iff_eq];exact this
        ·rw[bne_eq_false_iff_eq];exact this
      clear hmm;have c0:=HP.out.c0;have HLL:=hid (show l.length<=1000 by have:=HR.out;omega);have HLF:=hid (show ∀ e∈l,e.2.2.length<=1000 from fun e he=>by have:=(bi (HR.out.1 e he)).1;omega);have hgA3:gA<w1.heap.size:=by omega
      have hgB3:gB<w1.heap.size:=by omega
      have hg1:g<w1.heap.size:=by omega
      rcases hex with rfl|⟨hm1,hm2,hm3⟩
      ·have HLO:=hid hlo;clear hlo;go_wp2_with fail;go_region_law (go_simp;go_at_call 41;go_must (refine(zij _ S _ l (HL.out.ext ?_) ?_ ?_).mono ?_;(exact HX.out.trans (by(exact Ext.xt)));(exact HLL.out);(exact HLF.out);rintro e w' ⟨v',rfl,hr',hx'⟩;obtain⟨va',vc',rfl,-,-⟩:=hr'.slice;have HR':=hid hr';clear hr';have c0':=Ext.cellS hx' (show _=some (.slice aa x.all.length ac) from c0);have yA0':=Ext.cellS hx' (show _=some (.int .i64 0) from yA0);have xA0':=Ext.freeS hx' (show _<_ from hgA3) (show _=false from xA0);have yA1':=Ext.cellS hx' (show _=some (.int .i64 0) from yA1);have xA1':=Ext.freeS hx' (show _<_ from hgA3) (show _=false from xA1);have yA2':=Ext.cellS hx' (show _=some (.int .i64 0) from yA2);have xA2':=Ext.freeS hx' (show _<_ from hgA3) (show _=false from xA2);have yA3':=Ext.cellS hx' (show _=some (.bool false) from yA3);have xA3':=Ext.freeS hx' (show _<_ from hgA3) (show _=false from xA3);have yB0':=Ext.cellS hx' (show _=some (.string ⟨#[]⟩) from yB0);have xB0':=Ext.freeS hx' (show _<_ from hgB3) (show _=false from xB0);have yB1':=Ext.cellS hx' (show _=some (.string ⟨#[]⟩) from yB1);have xB1':=Ext.freeS hx' (show _<_ from hgB3) (show _=false from xB1);have yB2':=Ext.cellS hx' (show _=some (.int .i64 0) from yB2);have xB2':=Ext.freeS hx' (show _<_ from hgB3) (show _=false from xB2);have yB3':=Ext.cellS hx' (show _=some (.slice none 0 0) from yB3);have xB3':=Ext.freeS hx' (show _<_ from hgB3) (show _=false from xB3)));all_goals
        have HAo:=HA;have HBo:=HB;have HXo:=HX;clear HA HB HX;have hxw:Ext w1 w':=(show Ext w1 w1.drew by(exact Ext.xt)).trans hx';have HA:=hid ((Below.block hxw gA hgA3).trans HAo.out);have HB:=hid ((Below.block hxw gB hgB3).trans HBo.out);have HX:=hid (HXo.out.trans hxw);have HEV:=hid (show RdEs w' (fun k=>w1.heap.size<=k) (.slice va' l.length vc') l from HR'.out);clear hxw HAo HBo HXo;go_wp2_with fail;obtain⟨qA,qB⟩:=ku (u0:=.int .i64 (((x.str s).length:Int))) (u1:=.int .i64 ((x.all.length:Int))) (u2:=.int .i64 ((l.length:Int))) (u3:=.bool false) (v0:=.string s) (v1:=.string k) (v2:=.int .i64 (((x.str s).length:Int))) (v3:=.slice va' l.length vc') HA.out HB.out hAB;have rA0:=(cr 0 qA)
        have rA1:=(cr 1 qA)
        have rA2:=(cr 2 qA)
        have rA3:=(cr 3 qA)
        have rB0:=(cr 0 qB)
        have rB1:=(cr 1 qB)
        have rB2:=(cr 2 qB)
        have rB3:=(cr 3 qB)
        refine bodyPost_ret (v:=.tuple #[.agg #[.int .i64 (((x.str s).length:Int)),.int .i64 ((x.all.length:Int)),.int .i64 ((l.length:Int)),.bool false],.agg #[.string s,.string k,.int .i64 (((x.str s).length:Int)),.slice va' l.length vc'],.int .i64 0]) (by simp[results,Tryz.results23,go_sem,rA0,rA1,rA2,rA3,rB0,rB1,rB2,rB3]) rfl ⟨.slice va' l.length vc',by rw[HT.out];rfl,?_,jg HX.out hgAw hgBw⟩;rw[HT.out];exact(HEV.out.kept (zg4 (by omega) (by omega))).mono (fun k hk _=>by omega)
      ·have HLO:=hid hlo;clear hlo;go_wp2_with fail;go_region_law (go_simp;go_at_call 41;go_must (refine(zij _ S _ l (HL.out.ext ?_) ?_ ?_).mono ?_;(exact HX.out.trans (by(exact Ext.xt)));(exact HLL.out);(exact HLF.out);rintro e w' ⟨v',rfl,hr',hx'⟩;obtain⟨va',vc',rfl,-,-⟩:=hr'.slice;have HR':=hid hr';clear hr';have c0':=Ext.cellS hx' (show _=some (.slice aa x.all.length ac) from c0);have yA0':=Ext.cellS hx' (show _=some (.int .i64 0) from yA0);have xA0':=Ext.freeS hx' (show _<_ from hgA3) (show _=false from xA0);have yA1':=Ext.cellS hx' (show _=some (.int .i64 0) from yA1);have xA1':=Ext.freeS hx' (show _<_ from hgA3) (show _=false from xA1);have yA2':=Ext.cellS hx' (show _=some (.int .i64 0) from yA2);have xA2':=Ext.freeS hx' (show _<_ from hgA3) (show _=false from xA2);have yA3':=Ext.cellS hx' (show _=some (.bool false) from yA3);have xA3':=Ext.freeS hx' (show _<_ from hgA3) (show _=false from xA3);have yB0':=Ext.cellS hx' (show _=some (.string ⟨#[]⟩) from yB0);have xB0':=Ext.freeS hx' (show _<_ from hgB3) (show _=false from xB0);have yB1':=Ext.cellS hx' (show _=some (.string ⟨#[]⟩) from yB1);have xB1':=Ext.freeS hx' (show _<_ from hgB3) (show _=false from xB1);have yB2':=Ext.cellS hx' (show _=some (.int .i64 0) from yB2);have xB2':=Ext.freeS hx' (show _<_ from hgB3) (show _=false from xB2);have yB3':=Ext.cellS hx' (show _=some (.slice none 0 0) from yB3);have xB3':=Ext.freeS hx' (show _<_ from hgB3) (show _=false from xB3)));all_goals
        have HAo:=HA;have HBo:=HB;have HXo:=HX;clear HA HB HX;have hxw:Ext w1 w':=(show Ext w1 w1.drew by(exact Ext.xt)).trans hx';have HA:=hid ((Below.block hxw gA hgA3).trans HAo.out);have HB:=hid ((Below.block hxw gB hgB3).trans HBo.out);have HX:=hid (HXo.out.trans hxw);have HEV:=hid (show RdEs w' (fun k=>w1.heap.size<=k) (.slice va' l.length vc') l from HR'.out);clear hxw HAo HBo HXo;go_wp2_with fail;obtain⟨qA,qB⟩:=ku (u0:=.int .i64 (((x.str s).length:Int))) (u1:=.int .i64 ((x.all.length:Int))) (u2:=.int .i64 ((l.length:Int))) (u3:=.bool false) (v0:=.string s) (v1:=.string k) (v2:=.int .i64 (((x.str s).length:Int))) (v3:=.slice va' l.length vc') HA.out HB.out hAB;have rA0:=(cr 0 qA)
        have rA1:=(cr 1 qA)
        have rA2:=(cr 2 qA)
        have rA3:=(cr 3 qA)
        have rB0:=(cr 0 qB)
        have rB1:=(cr 1 qB)
        have rB2:=(cr 2 qB)
        have rB3:=(cr 3 qB)
        refine bodyPost_ret (v:=.tuple #[.agg #[.int .i64 (((x.str s).length:Int)),.int .i64 ((x.all.length:Int)),.int .i64 ((l.length:Int)),.bool false],.agg #[.string s,.string k,.int .i64 (((x.str s).length:Int)),.slice va' l.length vc'],.int .i64 0]) (by simp[results,Tryz.results23,go_sem,rA0,rA1,rA2,rA3,rB0,rB1,rB2,rB3]) rfl ⟨.slice va' l.length vc',by rw[HT.out];rfl,?_,jg HX.out hgAw hgBw⟩;rw[HT.out];exact(HEV.out.kept (zg4 (by omega) (by omega))).mono (fun k hk _=>by omega)
  ·rename_i ta
   obtain⟨t,a1,a2,a3,a4⟩:=ta;rw[hkk]at hlk;dsimp only[Option.map,Option.getD,Option.isSome,kStr,encK]at hlk;have hgn1:g<wa.heap.size:=by omega
   have hgn2 : ¬ wa.heap.size=g:=by omega
   have hgn3 : ¬ gA=wa.heap.size:=by omega
   have hgn4 : ¬ wa.heap.size=gA:=by omega
   have hgn5 : ¬ gB=wa.heap.size:=by omega
   have hgn6 : ¬ wa.heap.size=gB:=by omega
   have HAo:=HA;have HBo:=HB;have HXo:=HX;clear HA HB HX;by_cases hts:t=s
   ·subst hts;have e1:=zpk (a:=t) rfl;have HT:=hid (show tryF x t n k l=((a1,a2,a3,true),bat0,0) by unfold tryF;rw[if_neg (by rw[hnm];simp),hkk];simp);clear hkk hnm;go_wp2_with fail;obtain⟨qA,qB⟩:=ku (u0:=.int .i64 (a1)) (u1:=.int .i64 (a2)) (u2:=.int .i64 (a3)) (u3:=.bool true) (v0:=.string ⟨#[]⟩) (v1:=.string ⟨#[]⟩) (v2:=.int .i64 (0)) (v3:=.slice none 0 0) HAo.out HBo.out hAB;have hx8:=jg (u0:=.int .i64 (a1)) (u1:=.int .i64 (a2)) (u2:=.int .i64 (a3)) (u3:=.bool true) (v0:=.string ⟨#[]⟩) (v1:=.string ⟨#[]⟩) (v2:=.int .i64 (0)) (v3:=.slice none 0 0) HXo.out hgAw hgBw;obtain⟨W8,hW8⟩ : ∃ W8,W8=((((((((wa.setCell ⟨gA,0,none⟩ (.int .i64 (a1))).setCell ⟨gA,1,none⟩ (.int .i64 (a2))).setCell ⟨gA,2,none⟩ (.int .i64 (a3))).setCell ⟨gA,3,none⟩ (.bool true)).setCell ⟨gB,0,none⟩ (.string ⟨#[]⟩)).setCell ⟨gB,1,none⟩ (.string ⟨#[]⟩)).setCell ⟨gB,2,none⟩ (.int .i64 (0))).setCell ⟨gB,3,none⟩ (.slice none 0 0)):=⟨_,rfl⟩
    rw[<-hW8]at qA qB hx8 ⊢;clear hW8 hlk;obtain⟨W9,hW9⟩ : ∃ W9,W9=W8.alloc (.cells #[.string t,.int .i64 a1,.int .i64 a2,.int .i64 a3,.bool true] 106):=⟨_,rfl⟩
    rw[<-hW9];have hx9:Ext W8 W9:=by rw[hW9];exact(Ext.refl _).alloc _
    clear hW9;have qA:=(Below.block hx9 gA (blt qA)).trans qA;have qB:=(Below.block hx9 gB (blt qB)).trans qB;have rA0:=(cr 0 qA)
    have rA1:=(cr 1 qA)
    have rA2:=(cr 2 qA)
    have rA3:=(cr 3 qA)
    have rB0:=(cr 0 qB)
    have rB1:=(cr 1 qB)
    have rB2:=(cr 2 qB)
    have rB3:=(cr 3 qB)
    refine bodyPost_ret (v:=.tuple #[.agg #[.int .i64 (a1),.int .i64 (a2),.int .i64 (a3),.bool true],.agg #[.string ⟨#[]⟩,.string ⟨#[]⟩,.int .i64 (0),.slice none 0 0],.int .i64 0]) (by simp[results,Tryz.results23,go_sem,rA0,rA1,rA2,rA3,rB0,rB1,rB2,rB3]) rfl ⟨.slice none 0 0,by rw[HT.out];rfl,?_,hx8.trans hx9⟩;rw[HT.out];exact RdSO.nil _ _ _ _
   ·have e1:=zei hts;have e2 : ¬ t.toList=s.toList:=fun e=>by rw[e]at e1;simp at e1
    have HT:=hid (show tryF x s n k l=(app0,bat0,101) by unfold tryF;rw[if_neg (by rw[hnm];simp),hkk];simp[hts]);clear hkk hnm hts;go_wp2_with fail;obtain⟨qA,qB⟩:=ku (u0:=.int .i64 (0)) (u1:=.int .i64 (0)) (u2:=.int .i64 (0)) (u3:=.bool false) (v0:=.string ⟨#[]⟩) (v1:=.string ⟨#[]⟩) (v2:=.int .i64 (0)) (v3:=.slice none 0 0) HAo.out HBo.out hAB;have hx8:=jg (u0:=.int .i64 (0)) (u1:=.int .i64 (0)) (u2:=.int .i64 (0)) (u3:=.bool false) (v0:=.string ⟨#[]⟩) (v1:=.string ⟨#[]⟩) (v2:=.int .i64 (0)) (v3:=.slice none 0 0) HXo.out hgAw hgBw;obtain⟨W8,hW8⟩ : ∃ W8,W8=((((((((wa.setCell ⟨gA,0,none⟩ (.int .i64 (0))).setCell ⟨gA,1,none⟩ (.int .i64 (0))).setCell ⟨gA,2,none⟩ (.int .i64 (0))).setCell ⟨gA,3,none⟩ (.bool false)).setCell ⟨gB,0,none⟩ (.string ⟨#[]⟩)).setCell ⟨gB,1,none⟩ (.string ⟨#[]⟩)).setCell ⟨gB,2,none⟩ (.int .i64 (0))).setCell ⟨gB,3,none⟩ (.slice none 0 0)):=⟨_,rfl⟩
    rw[<-hW8]at qA qB hx8 ⊢;clear hW8 hlk;obtain⟨W9,hW9⟩ : ∃ W9,W9=W8.alloc (.cells #[.string t,.int .i64 a1,.int .i64 a2,.int .i64 a3,.bool a4] 106):=⟨_,rfl⟩
    rw[<-hW9];have hx9:Ext W8 W9:=by rw[hW9];exact(Ext.refl _).alloc _
    clear hW9;have qA:=(Below.block hx9 gA (blt qA)).trans qA;have qB:=(Below.block hx9 gB (blt qB)).trans qB;have rA0:=(cr 0 qA)
    have rA1:=(cr 1 qA)
    have rA2:=(cr 2 qA)
    have rA3:=(cr 3 qA)
    have rB0:=(cr 0 qB)
    have rB1:=(cr 1 qB)
    have rB2:=(cr 2 qB)
    have rB3:=(cr 3 qB)
    refine bodyPost_ret (v:=.tuple #[.agg #[.int .i64 (0),.int .i64 (0),.int .i64 (0),.bool false],.agg #[.string ⟨#[]⟩,.string ⟨#[]⟩,.int .i64 (0),.slice none 0 0],.int .i64 101]) (by simp[results,Tryz.results23,go_sem,rA0,rA1,rA2,rA3,rB0,rB1,rB2,rB3]) rfl ⟨.slice none 0 0,by rw[HT.out];rfl,?_,hx8.trans hx9⟩;rw[HT.out];exact RdSO.nil _ _ _ _
end
end Go.Proofs.YtnadlnmclameiaaGreatDoor
