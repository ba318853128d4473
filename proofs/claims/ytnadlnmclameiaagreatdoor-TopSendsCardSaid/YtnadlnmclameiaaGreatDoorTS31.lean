/- part 31 -/
import Derived.Test.YtnadlnmclameiaaGreatDoorTS30
import Derived.ProofKit
import Derived.OpenShut
import Derived.ShutString
import Derived.ChangeOld
import Derived.SizedLaws
set_option maxRecDepth 100000
set_option maxHeartbeats 8000000
set_option linter.all false
namespace Go.Proofs.YtnadlnmclameiaaGreatDoor
section
open Go.RowKit Go.Maps
theorem zno (l:List UInt8) (i:Nat):l.take (512*i)++yj l i=l.take (512*(i+1)):=zoo l i
theorem FsP.build {W:World}{gf gl:Nat}{C:Int->Bk}{gc ga gm:Nat}{lv:Value}{D:Option Nat}{x1 x2 x3:Nat} (hx:x1<=x2/\x2<=x3) (hgm:gm=x3) (hgf:gf=x3+1) (hz:x3+2<=W.heap.size)
  (hh:W.heap[gf]? = some (.cells #[.pointer (some ⟨gl,0,none⟩),.pointer (some ⟨gc,0,none⟩),.pointer (some ⟨ga,0,none⟩),.map (some gm),.map none,lv,.bool false] 150 (0,0)))
  (hca:CaAt (fun j=>x1<=j/\j<x2) W gc 0 (fun i=>C (36+(i:Int)))) (hma:MapAt (fun j=>x2<=j/\j<x3) W ga (qw 0) (qw 0)) (hf:W.ownsMap Tryz.prog 9 rawE gm 1 (ym none)) (hl:RdB W lv (dirB D)) (hlo : ∀ j,lv.ownBlock=some j->x3+2<=j/\j<W.heap.size) :
  ∃ φ,FsP W φ gf gl C ⟨none,0,0,0,D⟩ gc ga gm none 0 none lv/\∀ j,φ j≠none->x1<=j/\j<W.heap.size:=by
 have L : ∀ j,lv.ownBlock=some j->¬ j<x3+2:=fun j hj=>by have:=(hlo j hj).1;omega
 refine⟨rel (rel (rel (rel (rel (fun _=>none) (fun j=>j=gf) .fs) (fun j=>x1<=j/\j<x2) .cache) (fun j=>x2<=j/\j<x3) .alloc) (fun j=>j=gm) .files) (fun j=>lv.ownBlock=some j) .laid,{
  head:=hh
  rf:=by rw[qm (fun h=>L gf h (by omega)),qm (by omega),qm (by omega),qm (by omega)];exact qv rfl
  cache:=hca.mono fun j hj _=>by rw[qm (fun h=>L j h (by omega)),qm (by omega),qm (by omega),qv hj]
  alloc:=MapAt.mono' hma fun j hj=>by rw[qm (fun h=>L j h (by omega)),qm (by omega),qv hj]
  files:=hf
  rm:=by rw[qm (fun h=>L gm h (by omega))];exact qv rfl
  node:=fun s hs=>by cases hs
  laid:=hl
  rl:=fun j hj=>qv hj
  lt:=fun j hj=>?_ },fun j hj=>?_⟩
 all_goals
  rcases y7 hj with hj|hj
  ·have:=hlo j hj;omega
  ·rcases y7 hj with hj|hj
   ·omega
   ·rcases y7 hj with hj|hj
    ·omega
    ·rcases y7 hj with hj|hj
     ·omega
     ·rcases y7 hj with hj|hj
      ·omega
      ·exact(hj rfl).elim
section
variable {w W:World}{g:Nat}{ρ:Nat->Option DRol}{N:Nat}{d:Dv}
theorem zxr (hm:Mine w W g ρ N d) (hN:N<=999600000) (hc:Calm d) (hst:qk d) (hL:d.safe.length=64) {n:Nat} (hn:n<=100000000) {H:Int->Bk}{res:Option (List JW)} (hs:St 64 (curF d) n H res) (hin:WsIn 64 (res.getD [])) {B:Option (List UInt8)} (hf:FsHome (Hn H res) B) (hB : ∀ b,B=some b->b≠[]) :
  Calls Tryz.prog 28 #[.pointer (some ⟨g,0,none⟩)] W fun e W'=>∃ ρ' d' gl gf φ,e = .returned (.tuple #[.pointer (some ⟨gf,0,none⟩),.int .i64 0])/\LogAt w W' g ρ' (N+400) d' gl 64 (n+1) (Hn H res)/\Calm d'/\
   (∃ gc ga gm gt gn qn lv,FsP W' φ gf gl (Hn H res) ⟨B.map List.length,nbD (B.map List.length),nbD (B.map List.length),0,B.map List.length⟩ gc ga gm gt gn qn lv)/\RolNew ρ ρ' W/\Keep (fun j=>ρ j=none) W W'/\(∀ j,φ j≠none->ρ' j=none/\j≠gl/\W.heap.size<=j)/\W.heap.size<=gl:=by
 have HM:=hid hm;have hop:=zul hm (by omega) hc hst hL (by omega) hn hs hin;obtain⟨C,hCe⟩ : ∃ C,C=Hn H res:=⟨_,rfl⟩
 obtain⟨D,hD⟩ : ∃ D,D=B.map List.length:=⟨_,rfl⟩
 rw[<-hCe]at hop hf ⊢;rw[<-hD];have HD:=hid hD;have HF:=hid hf;have HB:=hid hB;have HO:=hid hop;clear hop hCe hD;clear hm hc hst hL hs hin hf hB;go_enter Tryz.func28,Tryz.ntmps28;go_wp2_with fail;refine HO.out.mono ?_;rintro e w1 ⟨ρ1,d1,gl,rfl,hla,hc1,hr1,hk1,hgl⟩;have HLA:=hid hla;have HC1:=hid hc1;have HR1:=hid hr1;have HK1:=hid hk1;have hgl1:gl<w1.heap.size:=hla.log.lt;clear hla hc1 hr1 hk1 HO;go_wp2_with fail;refine(zya w1 (fun i=>C (36+(i:Int)))).mono ?_;rintro e w2 ⟨gc,rfl,hca,hx2⟩;have HCA:=hid hca;have HX2:=hid hx2;have hlog2:=(HLA.out.keepT (hx2.keep _)).log;rw[show ((64:Nat):Int)-20=44 by omega]at hlog2;have HLOG2:=hid hlog2;clear hca hx2 hlog2;have hmm:= @run_makeMap Tryz.prog;go_wp2_with fail;refine(ztx w2 gl g _ _ _ HLOG2.out).mono ?_;rintro e w3 ⟨rfl,rfl⟩;go_wp2_with fail;refine(zwb w2 28 (by omega)).mono ?_;rintro e w3 ⟨ga,rfl,hma,hx3⟩;have HMA:=hid hma;have HX3:=hid hx3;clear hma hx3;go_wp2_with fail;obtain⟨gm,hgm⟩ : ∃ gm,gm=w3.heap.size:=⟨_,rfl⟩
 obtain⟨gf,hgf⟩ : ∃ gf,gf=w3.heap.size+1:=⟨_,rfl⟩
 obtain⟨w4,hw4⟩ : ∃ w4,w4=((w3.alloc (.map #[] 0)).alloc (.cells #[.pointer (some ⟨gl,0,none⟩),.pointer (some ⟨gc,0,none⟩),.pointer (some ⟨ga,0,none⟩),.map (some w3.heap.size),.map none,.slice none 0 0,.bool false] 150)):=⟨_,rfl⟩
 have hx4:Ext w3 w4:=by rw[hw4];exact((Ext.refl _).alloc _).alloc _
 have hz4:w4.heap.size=w3.heap.size+2:=by rw[hw4];simp
 have hh4:w4.heap[gf]? = some (.cells #[.pointer (some ⟨gl,0,none⟩),.pointer (some ⟨gc,0,none⟩),.pointer (some ⟨ga,0,none⟩),.map (some gm),.map none,.slice none 0 0,.bool false] 150 (0,0)):=by
  rw[hw4,hgm,hgf];have:=heap_alloc_new (w3.alloc (.map #[] 0)) (.cells #[.pointer (some ⟨gl,0,none⟩),.pointer (some ⟨gc,0,none⟩),.pointer (some ⟨ga,0,none⟩),.map (some w3.heap.size),.map none,.slice none 0 0,.bool false] 150);rw[World.size_alloc]at this;exact this
 have hf4:w4.ownsMap Tryz.prog 9 rawE gm 1 (ym none):=by
  rw[hw4,hgm];exact((World.ownsMap_made w3 _ _ _).mono (by omega)).alloc _
 rw[<-hw4,<-hgf];have HH4:=hid hh4;have HF4:=hid hf4;have HX4:=hid hx4;have HZ4:=hid hz4;have HGM:=hid hgm;have HGF:=hid hgf;have hzz:W.heap.size<=w1.heap.size/\w1.heap.size<=w2.heap.size/\w2.heap.size<=w3.heap.size:=⟨HK1.out.size,HX2.out.size,HX3.out.size⟩
 have hgW:g<W.heap.size:=by obtain⟨_,_,_,h⟩:=HM.out.dv;exact h.glt
 have HZZ:=hid hzz;have hgfg:gf≠g/\gf≠gl:=by omega
 clear hw4 hgm hh4 hf4 hx4 hz4 hgf hmm;go_loopw [38] (fun u38 wr=>∃ (i:Nat) (lvi:Value) (di:Dv),u38 = .int .i64 i/\i<=16/\LogAt w wr g ρ1 (N+300+i) di gl 64 (n+1) C/\Calm di/\
   wr.heap[gf]? = some (.cells #[.pointer (some ⟨gl,0,none⟩),.pointer (some ⟨gc,0,none⟩),.pointer (some ⟨ga,0,none⟩),.map (some gm),.map none,lvi,.bool false] 150 (0,0))/\OwnB wr w4.heap.size lvi ((dirB D).take (512*i))/\Keep (fun j=>j≠g/\j≠gl/\j≠gf) w4 wr) (fun u38 _=>16-(intOf u38).toNat)
 case atStart=>
  refine⟨0,_,d1,rfl,by omega,(HLA.out.keepT ((HX2.out.trans (HX3.out.trans HX4.out)).keep _)),HC1.out,HH4.out,?_,Keep.refl _ _⟩;rw[Nat.mul_zero,List.take_zero];exact World.ownsRow_nil _ _ _ _
 case round=>
  obtain⟨i,lvi,di,rfl,hi,hla,hc,hh,ho,hk⟩:=hrel;have HLI:=hid hla;have HCI:=hid hc;have HHI:=hid hh;have HOI:=hid ho;have HKI:=hid hk;clear hla hc hh ho hk;by_cases hlt:i<16
  ·go_wp2_with fail;refine(zuk HLI.out HCI.out (by omega) (by omega) (i:Int) (by omega)).mono ?_;rintro e w5 ⟨kb,rfl,hkb,hrd,hl5,d5,hla5,hc5,hk5⟩;have hh5:=(hk5.block gf hgfg (blt HHI.out)).trans HHI.out;have c5:w5.cell? ⟨gf,5,none⟩=some lvi:=(cr 5 hh5)
   have hup : ∀ j,lvi.ownBlock=some j->w4.heap.size<=j/\j<wr.heap.size:=fun j hj=>World.ownsRow.lt HOI.out j hj;have ho5:OwnB w5 w4.heap.size lvi ((dirB D).take (512*i)):=bt HOI.out (hk5.mono fun j hj _=>by
    have:=hup j hj;have:=HZ4.out;omega)
   have hch:=(HF.out.dir i hlt)
   rw[<-HD.out]at hch;rw[hch]at hrd hl5;have htl:((dirB D).take (512*i)).length=512*i:=by rw[List.length_take,vk];omega
   have HRD:=hid hrd;have HL5:=hid hl5;have HLA5:=hid hla5;have HC5:=hid hc5;have HK5:=hid hk5;have HH5:=hid hh5;have HO5:=hid ho5;have HUP:=hid hup;have HTL:=hid htl;have hz5:=hk5.size;have hzk:=HKI.out.size;clear hkb hrd hl5 hla5 hc5 hk5 hh5 hup ho5 hch htl;go_wp2_with (at_builtin;go_must (refine kw rfl _ _ _ rfl w4.heap.size _ ((dirB D).take (512*i)) rfl (qg HO5.out) (.slice (some ⟨kb,0,none⟩) 512 512) (yj (dirB D) i) rfl (bz HRD.out) ?_ ?_ ?_;(rw[HTL.out,HL5.out];omega);omega;intro v6 w6 k1 k2 k3 k4 k5 k6;have ho6:=k3 HO5.out;obtain⟨a6,n6,cc6,rfl⟩ : ∃ a n c,v6=Value.slice a n c:=(by obtain⟨a,c,e⟩:=ho6.slice;exact⟨a,_,c,e⟩);have hg6:Keep (fun j=>some j≠lvi.ownBlock) w5 w6:=zl k4;have hgf6:some gf≠lvi.ownBlock:=(fun e=>by have:=HUP.out gf e.symm;have:=HZ4.out;have:=HGF.out;omega);have hh6:=(hg6.block gf hgf6 (blt HH5.out)).trans HH5.out;have f6:=zg hh6 5;have c6:w6.cell? ⟨gf,5,none⟩=some lvi:=(cr 5 hh6);have HH6:=hid hh6;have HG6:=hid hg6;have HO6:=hid ho6;have HK6:=hid k6;clear k1 k2 k3 k4 k5 k6 ho6 hg6 hgf6 hh6))
   have hgg : ∀ j,lvi.ownBlock=some j->w4.heap.size<=j:=fun j hj=>(HUP.out j hj).1;have hz6:=HG6.out.size;have hk46:Keep (fun j=>j≠g/\j≠gl/\j≠gf) w4 w6:=(HKI.out.past HK5.out fun j hj hn=>⟨hn.1,hn.2.1⟩).past HG6.out fun j hj hn e=>by have:=hgg j e.symm;omega
   have hla6:=HLA5.out.keepT (HG6.out.mono fun j hj _ e=>by
    have h1:=hgg j e.symm;have h2:=HLA.out.hm.ex.size;have h3:=HZ4.out;rcases hj with (hj|hj)|hj
    ·exact hj (HLA.out.hm.late (Ext.refl _) (by omega))
    ·omega
    ·omega)
   have hrgf:ρ1 gf=none:=HLA.out.hm.late (Ext.refl _) (by have:=HGF.out;omega);have hlow:=HLA.out.hm.ex.size;have hk6':Keep (fun j=>j≠gf) w6 (w6.setCell ⟨gf,5,none⟩ (.slice a6 n6 cc6)):=(Keep.refl _ _).setCell (by simp) _;have ht:=zno (dirB D) i;refine⟨⟨i+1,.slice a6 n6 cc6,d5,by go_num,by omega,hla6.keepT (hk6'.mono fun j hj _ e=>?_),HC5.out,(zw (o:=5) HH6.out _).trans rfl,?_,hk46.trans (hk6'.mono fun j hj _=>hj.2.2)⟩,by simp only[intOf];omega⟩
   ·subst e;rcases hj with (hj|hj)|hj
    ·exact hj hrgf
    ·have:=HGF.out;omega
    ·exact hgfg.2 hj
   ·have h6:=HO6.out;rw[ht]at h6;exact bt h6 (hk6'.mono fun j hj _ e=>by
     rcases HK6.out j hj with h|h
     ·have:=hgg j h;have:=HZ4.out;have:=HGF.out;omega
     ·have:=HZ4.out;have:=HGF.out;omega)
  ·have hi16:i=16:=by omega
   subst hi16;have ho:=HOI.out;rw[List.take_of_length_le (by rw[vk];decide)]at ho;have hzk:=HKI.out.size;have hkc:Keep (fun j=>j≠g/\j≠gl/\j≠gf) w4 wr:=HKI.out;have hz4:=HZ4.out;have hgmE:=HGM.out;have hgfE:=HGF.out;have hx23:Ext w2 w4:=HX3.out.trans HX4.out;have hca:=(HCA.out.ext hx23).keep (hkc.mono fun j hj hl=>(by omega:j≠g/\j≠gl/\j≠gf));have hma:=(HMA.out.keep (HX4.out.keep _)).keep (hkc.mono fun j hj hl=>(by omega:j≠g/\j≠gl/\j≠gf));rw[<-zgp]at hma;have hfm:=zad HF4.out hkc (show gm≠g/\gm≠gl/\gm≠gf by omega);obtain⟨φ,hfs,hφ⟩:=FsP.build (gf:=gf) (gl:=gl) (C:=C) (D:=D) ⟨hzz.2.1,hzz.2.2⟩ hgmE hgfE (by omega) HHI.out hca hma hfm (zk ho) (fun j hj=>by
    have:=World.ownsRow.lt ho j hj;omega)
   have HFS:=hid hfs;have HΦ:=hid hφ;have hDs : ∀ s,D=some s->0<s/\s<=8192:=fun s e=>by
    rw[HD.out]at e;cases B with
    | none=>cases e
    | some b=>
     have e':b.length=s:=Option.some.inj e;have h1:=HB.out b rfl;have h2:=HF.out.small b rfl;have h3:b.length≠0:=fun h=>h1 (List.length_eq_zero_iff.1 h);omega
   have HDS:=hid hDs;have hdis : ∀ j,W.heap.size<=j->j<wr.heap.size->ρ1 j=none->True:=fun _ _ _ _=>trivial;clear ho hkc hx23 hca hma hfm hfs hφ hDs hdis hgmE hgfE hz4 HCA HMA HF4;go_wp2_with fail;refine(zt4 D HFS.out HDS.out).mono ?_;rintro e w6 ⟨rfl,φ6,gn6,qn6,hf6,hn6,hk6⟩;have HF6:=hid hf6;have HN6:=hid hn6;have HK6:=hid hk6;clear hf6 hn6 hk6;go_wp2_with fail;refine(zuo HF6.out (fun s e=>(HDS.out s e).2)).mono ?_;rintro e w7 ⟨rfl,gt7,hf7,hk7⟩;have HF7:=hid hf7;have HK7:=hid hk7;clear hf7 hk7;go_wp2_with fail;refine bodyPost_ret (v:=.tuple #[.pointer (some ⟨gf,0,none⟩),.int .i64 0]) (by simp[results,Tryz.results28,go_sem]) rfl ?_;have hz6:=HK6.out.size;have hlow:=HLA.out.hm.ex.size;have hz4:=HZ4.out;have hlate : ∀ j,w1.heap.size<=j->ρ1 j=none/\j≠gl/\w.heap.size<=j:=fun j hj=>⟨HLA.out.hm.late (Ext.refl _) hj,by omega,by omega⟩
   have hφl : ∀ j,φ j≠none->w1.heap.size<=j:=fun j hj=>(HΦ.out j hj).1;have hφ6 : ∀ j,φ6 j≠none->w1.heap.size<=j:=fun j hj=>by
    rcases HN6.out j hj with h|h
    ·exact hφl j h
    ·omega
   have hgfw:=hφl gf (by rw[HFS.out.rf];simp);have hkT:Keep (fun j=>j<w1.heap.size) wr w7:=(HK6.out.mono fun j hj _=>by
    by_cases e:φ j=none
    ·exact e
    ·have:=hφl j e;omega).trans (HK7.out.mono fun j hj _ e=>by omega)
   refine⟨ρ1,di,gl,gf,φ6,rfl,{ HLI.out.keepT (W':=w7) (hkT.mono fun j hj _=>?_) with hm:=(HLI.out.hm.kept (hkT.mono fun j hj _=>?_)).mono (by omega) },HCI.out,⟨_,_,_,_,_,_,_,HF7.out⟩,HR1.out,?_,fun j hj=>?_,hgl⟩
   ·by_cases e:j<w1.heap.size
    ·exact e
    ·obtain⟨q1,q2,q3⟩:=hlate j (by omega);rcases hj with (hj|hj)|hj
     ·exact(hj q1).elim
     ·omega
     ·exact(q2 hj).elim
   ·by_cases e:j<w1.heap.size
    ·exact e
    ·obtain⟨q1,q2,q3⟩:=hlate j (by omega);rcases hj with hj|hj
     ·exact(hj q1).elim
     ·omega
   ·have hkA:Keep (fun j=>ρ j=none/\j≠g/\j<W.heap.size) W wr:=((HK1.out.mono fun j hj _=>hj.1).trans ((HX2.out.trans (HX3.out.trans HX4.out)).keep _)).trans (HKI.out.mono fun j hj _=>⟨hj.2.1,by omega,by omega⟩);have hkB:Keep (fun j=>ρ j=none/\j≠g/\j<W.heap.size) W w7:=hkA.trans (hkT.mono fun j hj _=>by omega);refine hkB.mono fun j hj hl=>⟨hj,?_,hl⟩
    rintro rfl;obtain⟨_,_,_,h⟩:=HM.out.dv;rw[h.rg]at hj;cases hj
   ·obtain⟨q1,q2,q3⟩:=hlate j (hφ6 j hj);exact⟨q1,q2,by have:=hφ6 j hj;omega⟩
end
end
section
open Go.RowKit Go.Maps Go.Sort Go.Shelf
theorem zo5 (w:World) :
  Calls Tryz.prog 132 #[.func (.func 163) #[] #[.pointer (some ⟨w.heap.size,0,none⟩)]] (w.alloc (.cells #[.map none] 148)) fun e w'=>∃ v,e = .returned v/\OwnS rS 9 w' w.heap.size (fun _=>False) v []/\Ext w w':=by
 have hseq:SeqGives Fence.wide 2 Tryz.prog 163 #[.pointer (some ⟨w.heap.size,0,none⟩)] encStr (fun ss:List (List UInt8)=>ss=[]) 0 (w.alloc (.cells #[.map none] 148)):=
  AnyZ.keys_gives_nil (ρ:=zes) { zoc with } Fence.wide _ trivial rfl w.heap.size _ (by simp) (by simp)
 have cS:=AnyZ.sorted_in zmr Fence.wide 5 trivial trivial trivial trivial rfl (by omega) (zpp _) (enters_of Tryz.func162 (by kernel_rfl) rfl) 163 #[.pointer (some ⟨w.heap.size,0,none⟩)] trivial (enters_of Tryz.func163 (by kernel_rfl) rfl) _ _ (Nat.zero_le _) (by omega) _ hseq;change CallsIn _ _ Tryz.prog 132 _ _ _ at cS;refine((callsIn_wide (n:=5)).1 cS).mono ?_;rintro e w' ⟨v,ss,rfl,hS,hrow,hnil,hb⟩;subst hS;refine⟨v,rfl,⟨[],rfl,?_,fun k _ h=>h,fun p hp=>by cases hp⟩,((Ext.refl w).alloc _).trans (hb.mono (by simp))⟩;have h0:([]:List (List UInt8)).mergeSort leB=[]:=by simp
 have hrow':w'.ownsRow (w.alloc (.cells #[.map none] 148)).heap.size 9 1 v 0 []:=by
  have h1:w'.ownsRow (w.alloc (.cells #[.map none] 148)).heap.size 9 1 v 0 (List.map encStr (([]:List (List UInt8)).mergeSort leB)):=hrow;rw[h0]at h1;exact h1
 exact ownsRow_base_a hrow' (by simp only[World.size_alloc];omega)
theorem zlh (W:World):Calls Tryz.prog 78 #[.map none] W (NewB (dirB none) W):=by
 have hkc:=kcFs W;have x1:Ext W (W.alloc (.cells #[.int .u8 102,.int .u8 105,.int .u8 108,.int .u8 101,.int .u8 115] 5 (5,6))):=(Ext.refl _).alloc _;have hlen : ∀ w ty,(Builtin.len_ #[148] ty #[.map none]).run Tryz.prog w = .ok (.int .i64 0) w:=fun w ty=>Maps.len_nil Tryz.underlying148 ty;have HX1:=hid x1;clear x1;go_enter Tryz.func78,Tryz.ntmps78;go_wp2_with fail;refine(yi _ _ magicF 0 (zer W) (by omega) (by simp[magicF])).mono ?_;rintro e w1 ⟨v1,rfl,ho1,hb1⟩;obtain⟨Z,hZ⟩ : ∃ Z,Z=magicF++putU 0:=⟨_,rfl⟩
 rw[<-hZ]at ho1;have hzl:Z.length<=100:=by rw[hZ];exact zav none
 have HZ:=hid hZ;have HO1:=hid (ho1.low HX1.out.size);have HXW1:=hid (HX1.out.trans hb1);clear ho1 hb1 hkc hlen hZ;obtain⟨a1,c1,e1⟩:=HO1.out.slice;subst e1;go_wp2_with fail;refine(zun none w1).mono ?_;rintro e w2 ⟨rfl,hw2⟩;have HW2:=hid hw2;clear hw2;go_wp2_with fail;rw[HW2.out];refine(zo5 w1).mono ?_;rintro e w3 ⟨v3,rfl,ho3,hx3⟩;obtain⟨a3,c3,rfl⟩:=ho3.slice;have HX3:=hid hx3;clear hx3 HW2 ho3;go_wp2_with fail;go_loopw [3,16] (fun u3 u16 wr=>u3 = .slice a1 Z.length c1/\u16 = .int .i64 0/\wr=w3) (fun _ u16 _=>0);case atStart=>exact⟨rfl,rfl,rfl⟩
 case round=>
  obtain⟨rfl,rfl,rfl⟩:=hrel;have HO':=hid (HO1.out.ext HX3.out);have hzz:=Nat.le_trans HXW1.out.size HX3.out.size;have HXX:=hid (HXW1.out.trans HX3.out);have h5:0<Z.length:=by rw[HZ.out];simp[magicF]
  have hsub:IntKind.i64.wrap (8192-(Z.length:Int))=((8192-Z.length:Nat):Int):=by rw[IntKind.wrap_i64] <;> omega
  go_wp2_with (at_builtin;go_must (refine zfa rfl _ _ rfl W.heap.size _ Z rfl (qg HO'.out) (8192-Z.length) rfl ?_ ?_ ?_;(first|omega|skip);(first|omega|skip);intro v4 w4 k1 k2 k3 k4 k5 k6;have ho4:=k3 HO'.out;have hx4:Ext W w4:=Ext.step HXX.out k5 (Nat.le_refl _);clear k1 k2 k3 k4 k5 k6))
  go_ret;have hdb:Z++List.replicate (8192-Z.length) 0=dirB none:=by rw[HZ.out];rfl
  rw[hdb]at ho4;exact⟨v4,rfl,ho4,hx4⟩
section
variable {w W:World}{g:Nat}{ρ:Nat->Option DRol}{N:Nat}{d:Dv}
def zeros8:List UInt8:=List.replicate 8192 0
theorem zeros8_len:zeros8.length=8192:=List.length_replicate
theorem zoq:bvs zeros8=List.replicate 8192 (Value.int .u8 0):=by
 unfold bvs zeros8;rw[List.map_replicate];rfl
theorem zw5 (w:World):(Instr.makeSlice 33 (.int .i64 8192) (.int .i64 8192)).run Tryz.prog w = .ok (.slice (some ⟨w.heap.size,0,none⟩) 8192 8192) (w.alloc (.cells (bvs zeros8).toArray 5)):=by
 have h:=run_make_row' (P:=Tryz.prog) 33 5 (.int .u8 0) 1 Tryz.underlying33 zet rfl .i64 .i64 8192 (by omega) (by omega) w;have e:madeCells #[Value.int .u8 0] 8192=(bvs zeros8).toArray:=by
  apply Array.toList_inj.1;rw[toList_madeCells_one,zoq]
 rw[e]at h;exact h
theorem zkz (j:Nat) (hj:j<16):zb=yj zeros8 j:=by
 unfold zb yj zeros8;rw[List.drop_replicate,List.take_replicate];congr 1
 omega
theorem zwk (hm:Mine w W g ρ N d) (hN:N<=999600000) (hc:Calm d) (hL:d.safe.length=64) (hz : ∀ j:Int,0<=j->j<d.safe.length->curF d j=zb) :
  Calls Tryz.prog 37 #[.pointer (some ⟨g,0,none⟩)] W fun e W'=>e = .returned (.int .i64 0)/\∃ ρ' d' C,Mine w W' g ρ' (N+3000) d'/\Calm d'/\qk d'/\d'.safe.length=64/\LogS 64 (curF d') 2 C/\FsHome C none:=by
 have HF:=hid (zmf hm (by omega) hc hz);have HL:=hid hL;clear hm hc hz hL;go_enter Tryz.func37,Tryz.ntmps37;go_wp2_with fail;refine HF.out.mono ?_;rintro e w2 ⟨rfl,ρ2,d2,hm2,hc2,hs2,hl2',hr2,hz2⟩;have hl2:d2.safe.length=64:=hl2'.trans HL.out;have hls:LogS 64 (curF d2) 0 (fun _=>zb):=by
  refine⟨hr2,fun m hm=>?_,fun j a b=>hz2 j (by omega) (by omega)⟩;rw[hz2 2 (by omega) (by omega),zob]at hm;cases hm
 have hop:=zul hm2 (by omega) hc2 hs2 hl2 (by omega) (n:=0) (by omega) (H:=fun _=>zb) (res:=none) (.inl ⟨rfl,hls⟩) (zjj 64);have HOP:=hid hop;clear hop hm2 hc2 hs2 hl2 hl2' hr2 hz2 hls HF;go_wp2_with fail;refine HOP.out.mono ?_;rintro e w3 ⟨ρ3,d3,gl,rfl,hla,hc3,-,-,-⟩;have HLA:=hid hla;have HC3:=hid hc3;clear hla hc3 HOP;go_wp2_with fail;have hmk:=zw5;refine zr (fun _=>True) [] (by kernel_rfl) trivial (fun hS=>?_);(refine za 0 rfl ?_;(try simp only[Act.put,tq0,tq1,tq2,tq3,tq4,tq5]));have hxd:Ext w3 w3.drew:=(Ext.refl _).drew;generalize w3.drew=wd at hxd ⊢;have HXD:=hid hxd;clear hS hxd;refine ze (rs:=[1,2]) (by kernel_rfl) (by decide) (AllT.consS rfl (fun K hK=>?_) (AllT.consS rfl (fun K hK=>?_) AllT.nil));go_simp;obtain⟨gz,hgz⟩ : ∃ gz,gz=wd.heap.size:=⟨_,rfl⟩
 have hnz:=heap_alloc_new wd (.cells (bvs zeros8).toArray 5);have hxz:Ext wd (wd.alloc (.cells (bvs zeros8).toArray 5)):=(Ext.refl wd).alloc _;rw[<-hgz]at hnz ⊢;generalize (wd.alloc (.cells (bvs zeros8).toArray 5))=wz at hnz hxz ⊢;have HRZ:=hid (zaq (b:=zeros8) hnz 8192 zeros8_len.symm (by omega));have HXZ:=hid (show Ext w3 wz from HXD.out.trans hxz);have hgz3:w3.heap.size<=gz:=by rw[hgz];exact HXD.out.size
 clear hnz hxz hgz hmk;(refine hK.out _ _ (trivial) (fun hS=>?_);clear hK K);refine ze (rs:=[2]) (by kernel_rfl) (by decide) (AllT.consS rfl (fun K hK=>?_) AllT.nil);go_simp;refine(zlh wz).mono ?_;rintro e w5 ⟨v5,rfl,ho5,hb5⟩;have HO5:=hid (zk ho5);have HX5:=hid (show Ext w3 w5 from HXZ.out.trans (Ext.of hb5));have HRZ5:=hid (HRZ.out.ext (Ext.of hb5));have HLO5:=hid (fun j (hj:v5.ownBlock=some j)=>Nat.le_trans HXZ.out.size (World.ownsRow.lt ho5 j hj).1);clear ho5 hb5;(refine hK.out _ _ (trivial) (fun hS=>?_);clear hK K);rotate_left
 go_simp;refine(zlh wd).mono ?_;rintro e wz ⟨v5,rfl,ho5,hb5⟩;have HOz:=hid ho5;have HXZ:=hid (show Ext w3 wz from HXD.out.trans (Ext.of hb5));have HLO5:=hid (fun j (hj:v5.ownBlock=some j)=>Nat.le_trans HXD.out.size (World.ownsRow.lt ho5 j hj).1);clear ho5 hb5;(refine hK.out _ _ (trivial) (fun hS=>?_);clear hK K);refine ze (rs:=[1]) (by kernel_rfl) (by decide) (AllT.consS rfl (fun K hK=>?_) AllT.nil);go_simp;obtain⟨gz,hgz⟩ : ∃ gz,gz=wz.heap.size:=⟨_,rfl⟩
 have hnz:=heap_alloc_new wz (.cells (bvs zeros8).toArray 5);have hxz:Ext wz (wz.alloc (.cells (bvs zeros8).toArray 5)):=(Ext.refl wz).alloc _;rw[<-hgz]at hnz ⊢;generalize (wz.alloc (.cells (bvs zeros8).toArray 5))=w5 at hnz hxz ⊢;have HRZ5:=hid (zaq (b:=zeros8) hnz 8192 zeros8_len.symm (by omega));have HX5:=hid (show Ext w3 w5 from HXZ.out.trans hxz);have HO5:=hid (zk (OwnB.ext HOz.out hxz));have hgz3:w3.heap.size<=gz:=by rw[hgz];exact HXZ.out.size
 clear hnz hxz hgz hmk HOz;(refine hK.out _ _ (trivial) (fun hS=>?_);clear hK K);all_goals
  obtain⟨a5,n5,c5,rfl⟩ : ∃ a n c,v5=Value.slice a n c:=by
   obtain⟨a,c,e,-⟩:=HO5.out;exact⟨a,_,c,e⟩
  have hn5:n5=8192:=by
   obtain⟨a,c,e,-⟩:=HO5.out;simp only[Value.slice.injEq]at e;rw[e.2.1,vk]
  subst hn5;refine ze (rs:=[3]) (by kernel_rfl) (by decide) (AllT.consS rfl (fun K hK=>?_) AllT.nil);go_simp;refine(znd w5 _ a5 _ c5 zeros8 (dirB none) HRZ5.out HO5.out zeros8_len (vk none)).mono ?_;rintro e w6 ⟨v6,rfl,ho6,hx6⟩;have HV6:=hid (show RdS rWr w6 (fun j=>ρ3 j=none/\j≠gl) v6 (ye zeros8 (dirB none) 16) from ho6.rd.mono fun j hj _=>by
   have hgl:=HLA.out.log.lt;have hj3:w3.heap.size<=j:=by
    rcases hj with hj|hj
    ·exact HLO5.out j hj
    ·have:=(ho6.lt j hj).1;have:=HX5.out.size;omega
   exact⟨HLA.out.hm.late (Ext.refl _) hj3,by omega⟩)
  have HLA6:=hid (HLA.out.keepT ((HX5.out.trans hx6).keep _));clear ho6 hx6;(refine hK.out _ _ (trivial) (fun hS=>?_);clear hK K);refine ze (rs:=[4]) (by kernel_rfl) (by decide) (AllT.consS rfl (fun K hK=>?_) AllT.nil);go_simp;refine(zwg HLA6.out HC3.out (by omega) (by omega) (by omega) v6 _ HV6.out (zcz zeros8 (dirB none) (vk none))).mono ?_;rintro e w7 ⟨ρ7,d7,rfl,hla7,hc7,-,-⟩;have HLA7:=hid hla7;have HC7:=hid hc7;clear hla7 hc7;(refine hK.out _ _ (trivial) (fun hS=>?_);clear hK K);refine ze (rs:=[5]) (by kernel_rfl) (by decide) (AllT.consS rfl (fun K hK=>?_) AllT.nil);go_simp;(refine hK.out _ _ (trivial) (fun hS=>?_);clear hK K);refine zn (by kernel_rfl) (NoPanic.normal ?_) _;go_wp2_with fail;go_ret;exact⟨rfl,ρ7,d7,_,HLA7.out.hm.mono (by omega),HC7.out,HLA7.out.st,HLA7.out.len,HLA7.out.sp,FsHome.first zeros8 fun j hj=>zkz j hj⟩
end
end
section
open Go.RowKit Go.Maps
theorem zw0 (w:World):Calls Tryz.prog 185 #[.int .i64 0] w fun e w'=>e = .returned (.string ⟨#[48]⟩)/\w=w':=by
 go_enter Tryz.func185,Tryz.ntmps185;go_wp2_with fail;go_ret;exact⟨rfl,rfl⟩
theorem zwz (w:World):Calls Tryz.prog 185 #[.int .i64 1] w fun e w'=>e = .returned (.string ⟨#[49]⟩)/\w=w':=by
 go_enter Tryz.func185,Tryz.ntmps185;go_wp2_with fail;go_ret;exact⟨rfl,rfl⟩
theorem zxb (n:Int) (s:ByteArray) (w:World) (h:0<=n/\n<100) (hs : ∀ w,Calls Tryz.prog 185 #[.int .i64 n] w fun e w'=>e = .returned (.string s)/\w=w') :
  Calls Tryz.prog 164 #[.int .i64 n,.int .i64 10] w fun e w'=>e = .returned (.string s)/\w=w':=by
 have HS:=hid hs;obtain⟨h1,h2⟩:=h;clear hs;go_enter Tryz.func164,Tryz.ntmps164;go_wp2_with fail;refine(HS.out w).mono ?_;rintro e w1 ⟨rfl,rfl⟩;go_wp2_with fail;go_ret;exact⟨rfl,rfl⟩
theorem zx2 (n:Int) (s:ByteArray) (w:World) (h:0<=n/\n<100) (hs : ∀ w,Calls Tryz.prog 185 #[.int .i64 n] w fun e w'=>e = .returned (.string s)/\w=w') :
  Calls Tryz.prog 136 #[.int .i64 n] w fun e w'=>e = .returned (.string s)/\w=w':=by
 have HF:=hid (zxb n s w h hs);clear hs h;go_enter Tryz.func136,Tryz.ntmps136;go_wp2_with fail;refine HF.out.mono ?_;rintro e w1 ⟨rfl,rfl⟩;go_wp2_with fail;go_ret;exact⟨rfl,rfl⟩
theorem itoa (n:Int) (s:ByteArray) (w:World) (h:0<=n/\n<100) (hs : ∀ w,Calls Tryz.prog 185 #[.int .i64 n] w fun e w'=>e = .returned (.string s)/\w=w') :
  Calls Tryz.prog 87 #[.int .i64 n] w fun e w'=>e = .returned (.string s)/\w=w':=by
 have HF:=hid (zx2 n s w h hs);clear hs h;go_enter Tryz.func87,Tryz.ntmps87;go_wp2_with fail;refine HF.out.mono ?_;rintro e w1 ⟨rfl,rfl⟩;go_wp2_with fail;go_ret;exact⟨rfl,rfl⟩
theorem zdn (w:World):Calls Tryz.prog 52 #[.int .i64 0] w fun e w'=>e = .returned (.string seg0)/\w=w':=by
 have HF:=hid (itoa 0 ⟨#[48]⟩ w (by omega) zw0);go_enter Tryz.func52,Tryz.ntmps52;go_wp2_with fail;refine HF.out.mono ?_;rintro e w1 ⟨rfl,rfl⟩;go_wp2_with fail;go_ret;exact⟨rfl,rfl⟩
theorem zr6 (w:World):Calls Tryz.prog 52 #[.int .i64 1] w fun e w'=>e = .returned (.string seg1)/\w=w':=by
 have HF:=hid (itoa 1 ⟨#[49]⟩ w (by omega) zwz);go_enter Tryz.func52,Tryz.ntmps52;go_wp2_with fail;refine HF.out.mono ?_;rintro e w1 ⟨rfl,rfl⟩;go_wp2_with fail;go_ret;exact⟨rfl,rfl⟩
end
section
open Go.ChangeShapes Go.WideShapes Go.ChangeAt Go.RowKit
theorem own:ownKnob Tryz.prog.godebug=none:=by kernel_rfl
theorem zm0:laidOutB Tryz.prog=true:=by kernel_rfl
theorem zwt {n:Int} (h:(Lit.int .i64 n).wf=true) : -9223372036854775808<=n/\n<=9223372036854775807:=by
 simpa[Lit.wf,IntKind.min,IntKind.max,IntKind.signed,IntKind.bits] using h
end
end Go.Proofs.YtnadlnmclameiaaGreatDoor
