/- part 28 -/
import Derived.Test.YtnadlnmclameiaaGreatDoorTS27
set_option maxRecDepth 100000
set_option maxHeartbeats 8000000
set_option linter.all false
namespace Go.Proofs.YtnadlnmclameiaaGreatDoor
section
open Go.RowKit
theorem zkk (w:World) (g:Nat) (q:Option Nat) (s:Int) (L:List Int) (h:NodeAt w g q s L) (hl:L.length<=1000000) :
  Calls Tryz.prog 115 #[.pointer (some ⟨g,0,none⟩)] w fun e w'=>∃ g' q',e = .returned (.pointer (some ⟨g',0,none⟩))/\NodeAt w' g' q' s L/\w.heap.size<=g'/\(∀ k,q'=some k->w.heap.size<=k)/\Below w.heap.size w w':=by
 obtain⟨a,cap,c0,c1,hr,-,-,hn,hc⟩:=h.cells;have hg:=h.lt;have hwl:=bo L;have HN:=hid (show z8 L=[]->Value.slice a (z8 L).length cap = .slice none 0 0 from fun e=>by
  obtain⟨rfl,rfl⟩:=hn ((bj L).1 e);rw[e];rfl)
 have HI:=hid (show L=[]->z8 L=[] from (bj L).2);have HRW:=hid hr;clear hn h hr;go_enter Tryz.func115,Tryz.ntmps115;go_wp2_with fail;go_region_held3 (fun w'=>w'.cell? ⟨g,0,none⟩=some (.int .i64 s)/\w'.cell? ⟨g,1,none⟩=some (.slice a (z8 L).length cap)) (first|go_keep|(go_split_ands;exact⟨Ext.cellS hx' (by assumption),Ext.cellS hx' (by assumption)⟩)|(go_split_ands;exact⟨Ext.cellS ((Ext.refl _).alloc _) (by assumption),Ext.cellS ((Ext.refl _).alloc _) (by assumption)⟩)) ((go_at_call 157;go_must (refine(zhk _ _ (z8 L) (HRW.out.ext (by(exact Ext.xt))) HN.out (by omega)).mono ?_;rintro e w' ⟨v',rfl,hv1,hv2,hb'⟩;have hx':=Ext.of hb';obtain⟨va,vc,rfl,-⟩:=hv1.rd.slice;have HV1:=hid hv1;have HV2:=hid hv2;clear hb' hv1 hv2)));all_goals
  go_wp2_with fail;go_ret;refine⟨_,(Value.slice va (z8 L).length vc).ownBlock,rfl,⟨_,heap_alloc_new _ _,(HV1.out.ext ((Ext.refl _).alloc _)).rd,rfl,fun e=>?_,fun k hk=>?_,fun e=>HV2.out (HI.out e)⟩,hx'.size,fun k hk=>?_,by show Ext _ _;(exact Ext.xt)⟩
  ·have:=(HV1.out.lt _ e).2;omega
  ·have:=(HV1.out.lt _ hk).2;simp;omega
  ·have:=(HV1.out.lt _ hk).1;simpa using this
end
section
open Go.RowKit Go.Maps
theorem zly {w:World}{gm r cnt:Nat}{o:Option Nat}{left:Lit->Bool} (h:w.ranges Tryz.prog 9 rawE gm r 1 (ym o) left cnt) (ty:TypeId) :
  (cnt=0/\(Instr.next (.pointer (some ⟨r,0,none⟩)) false ty).run Tryz.prog w = .ok (.tuple #[.bool false]) w)\/
  ∃ g w' cnt' left',o=some g/\(Instr.next (.pointer (some ⟨r,0,none⟩)) false ty).run Tryz.prog w = .ok (.tuple #[.bool true,.string seg0,.pointer (some ⟨g,0,none⟩)]) w'/\
   w'.ranges Tryz.prog 9 rawE gm r 1 (ym o) left' cnt'/\cnt'<cnt/\Keep (fun k=>k≠r) w w'/\w'.heap.size=w.heap.size/\(Instr.entry (.pointer (some ⟨r,0,none⟩))).run Tryz.prog w' = .ok (.tuple #[.string seg0,.pointer (some ⟨g,0,none⟩)]) w':=by
 rcases h.next kStr.law ty with⟨e1,e2,e3⟩|⟨key,v,kl,y,w',cnt',hkey,hl,hy,hat,hrun,hr,hlt,hg,hs,hen⟩
 ·exact .inl ⟨e1,e3⟩
 ·obtain⟨x,hx1,hx2,hx3⟩:=Maps.keyOf_str Tryz.underlying9 hkey;have hy:=zca hy;subst hy;have two : ∀ s:List UInt8,kl = .string s->(∀ z,(ym o).atKey (.string s) z=z)->False:=fun s e hz=>by
   subst e;have k1:=(hz (.held undef)).symm.trans (hat (.held undef));have k2:=(hz (.held (.bool true))).symm.trans (hat (.held (.bool true)));have:=(DataW.held.inj k1).trans (DataW.held.inj k2).symm;simp[undef]at this
  cases o with
  | none=>exact(two _ hx2 fun z=>by simp[ym,DataW.atKey]).elim
  | some g=>
   by_cases hxe:x=segN
   ·subst hxe;have hv:v = .pointer (some ⟨g,0,none⟩):=by
     have k1:=hat (.held (.pointer none));rw[hx2]at k1;have k2:=(ziu g).symm.trans k1;exact(DataW.held.inj k2).symm
    subst hv;have hk:key = .string seg0:=hx1;subst hk;exact .inr ⟨g,w',cnt',_,rfl,hrun,hr,hlt,(zl hg).mono (fun k hk _ e=>hk (Option.some.inj e)),hs,hen⟩
   ·refine(two _ hx2 fun z=>?_).elim;have h' : ¬ segN=x:=fun e=>hxe e.symm;simp[ym,DataW.atKey,Lit.sameKey,h']
theorem zrv {w:World}{ops:Array Oper}{rest:List Oper}{o:Oper}{a:Act}{Q:Exit->Act->World->Prop} (hgd:o.guard=none) (it:Operand) (hop:o.op=Op.next it false) (r:Nat) (hit:a.eval it = .pointer (some ⟨r,0,none⟩))
  {gm cnt:Nat}{fo:Option Nat}{left:Lit->Bool} (h:w.ranges Tryz.prog 9 rawE gm r 1 (ym fo) left cnt)
  (hDone:wpList Tryz.prog ops Q rest (a.put o.dst (.tuple #[.bool false])) w)
  (hMore : ∀ (g:Nat) (w':World) (cnt':Nat) (left':Lit->Bool),fo=some g->w'.ranges Tryz.prog 9 rawE gm r 1 (ym fo) left' cnt'->cnt'<cnt->Keep (fun k=>k≠r) w w'->w'.heap.size=w.heap.size->
   (Instr.entry (.pointer (some ⟨r,0,none⟩))).run Tryz.prog w' = .ok (.tuple #[.string seg0,.pointer (some ⟨g,0,none⟩)]) w'->wpList Tryz.prog ops Q rest (a.put o.dst (.tuple #[.bool true,.string seg0,.pointer (some ⟨g,0,none⟩)])) w'):wpList Tryz.prog ops Q (o :: rest) a w:=by
 refine wpList_plain hgd fun K' hK'=>?_;unfold Oper.wp;rcases zly h o.type with⟨h0,hrun⟩|⟨g,w',cnt',left',hg,hrun,hr,hlt,hk,hs,hen⟩
 ·simp[execOp,hop,hit,hrun,Result.andThen];exact hK' _ _ hDone
 ·simp[execOp,hop,hit,hrun,Result.andThen];exact hK' _ _ (hMore g w' cnt' left' hg hr hlt hk hs hen)
theorem Keep.past {S S':Nat->Prop}{a b c:World} (h:Keep S a b) (k:Keep S' b c) (hS : ∀ j,j<a.heap.size->S j->S' j):Keep S a c:=
 ⟨k.os.trans h.os,k.tape.trans h.tape,k.output.trans h.output,Nat.le_trans h.size k.size,fun i hi hl=>(k.block i (hS i hl hi) (Nat.lt_of_lt_of_le hl h.size)).trans (h.block i hi hl)⟩
theorem zad {k:TypeId}{w w':World}{b n:Nat}{D:DataW Value}{S:Nat->Prop} (h:w.ownsMap Tryz.prog k rawE b n D) (hk:Keep S w w') (hS:S b):w'.ownsMap Tryz.prog k rawE b n D:=by
 have hlt:=h.lt;obtain⟨es,clock,h1,h2⟩:=h;exact⟨es,clock,(hk.block b hS hlt).trans h1,h2⟩
theorem zlz {k:TypeId}{w w':World}{b r n:Nat}{D:DataW Value}{left:Lit->Bool}{cnt:Nat}{S:Nat->Prop} (h:w.ranges Tryz.prog k rawE b r n D left cnt) (hk:Keep S w w') (hb:S b) (hr:S r):w'.ranges Tryz.prog k rawE b r n D left cnt:=by
 have hl:=h.lt;have hl2:=h.owns.lt;obtain⟨es,clock,since,seen,c0,hb0,F,hs,hD,hr0,rest⟩:=h;exact⟨es,clock,since,seen,c0,(hk.block b hb hl2).trans hb0,F,hs,hD,(hk.block r hr hl).trans hr0,rest⟩
section
variable {W W':World}{φ:Nat->Option FRol}{gf gl:Nat}{C:Int->Bk}{k:FsS}{gc ga gm:Nat}{gt:Option Nat}{gn:Nat}{qn:Option Nat}{lv:Value}
theorem FsP.headTo (h:FsP W φ gf gl C k gc ga gm gt gn qn lv) {gt':Option Nat}{lv':Value}{dir':Option Nat} (hk:Keep (fun j=>j≠gf) W W') (hh:W'.heap[gf]? = some (.cells #[.pointer (some ⟨gl,0,none⟩),.pointer (some ⟨gc,0,none⟩),.pointer (some ⟨ga,0,none⟩),.map (some gm),.map gt',lv',.bool false] 150 (0,0)))
  (hl:RdB W' lv' (dirB dir')) (hb : ∀ j,lv'.ownBlock=some j->φ j=some .laid):FsP W' φ gf gl C { k with dir:=dir' } gc ga gm gt' gn qn lv':=by
 have hne : ∀ {j:Nat}{r:FRol},φ j=some r->r≠ .fs->j≠gf:=fun {j r} hj hr e=>by subst e;rw[h.rf]at hj;exact hr (Option.some.inj hj).symm
 exact {
  head:=hh
  rf:=h.rf
  cache:=h.cache.keep (hk.mono fun j hj _=>hne hj (by simp))
  alloc:=h.alloc.keep (hk.mono fun j hj _=>hne hj (by simp))
  files:=by
   obtain⟨es,clock,h1,h2⟩:=h.files;exact⟨es,clock,(hk.block gm (hne h.rm (by simp)) (h.lt gm (by rw[h.rm];simp))).trans h1,h2⟩
  rm:=h.rm
  node:=fun s hs=>by
   obtain⟨h1,h2,h3⟩:=h.node s hs;exact⟨h1.keep hk (hne h2 (by simp)) (fun j hj=>hne (h3 j hj) (by simp)),h2,h3⟩
  laid:=hl
  rl:=hb
  lt:=fun j hj=>Nat.lt_of_lt_of_le (h.lt j hj) hk.size }
theorem zuo (h:FsP W φ gf gl C k gc ga gm gt gn qn lv) (hs : ∀ s,k.sz=some s->s<=8192) :
  Calls Tryz.prog 65 #[.pointer (some ⟨gf,0,none⟩)] W fun e W'=>e = .returned (.tuple #[])/\∃ gt',FsP W' φ gf gl C k gc ga gm gt' gn qn lv/\Keep (fun j=>j≠gf) W W':=by
 have H:=hid h;have HS:=hid hs;have hgf:=h.glt;have HPH:=hid h.lt;have c4:=(cr 4 h.head)
 have f4:=zg h.head 4;have hmm:= @run_makeMap Tryz.prog;have n1 : ¬ gf=W.heap.size:=by omega
 have n2 : ¬ W.heap.size=gf:=by omega
 have c3:=(cr 3 h.head)
 obtain⟨gt',hgt⟩ : ∃ gt',gt'=W.heap.size:=⟨_,rfl⟩
 have x1:Ext W (W.alloc (.map #[] 0)):=(Ext.refl _).alloc _;obtain⟨w1,hw1⟩ : ∃ w1,w1=(W.alloc (.map #[] 0)).setCell ⟨gf,4,none⟩ (.map (some gt')):=⟨_,rfl⟩
 have hk1:Keep (fun j=>j≠gf) W w1:=by rw[hw1];exact(x1.keep _).trans ((Keep.refl _ _).setCell (by simp) _)
 have hh1:w1.heap[gf]? = some (.cells #[.pointer (some ⟨gl,0,none⟩),.pointer (some ⟨gc,0,none⟩),.pointer (some ⟨ga,0,none⟩),.map (some gm),.map (some gt'),lv,.bool false] 150 (0,0)):=by
  rw[hw1];exact(zw (o:=4) (yy x1 h.head) _).trans rfl
 have hlf : ∀ j,lv.ownBlock=some j->j≠gf:=fun j hj e=>by have:=h.rl j hj;rw[e,h.rf]at this;cases this
 have hm1:FsP w1 φ gf gl C k gc ga gm (some gt') gn qn lv:=h.headTo hk1 hh1 (Rd.carry0 h.laid hk1.size fun _ j hj hl=>hk1.block j (hlf j hj) hl) h.rl;have ht1:w1.ownsMap Tryz.prog 9 rawE gt' 1 (ym none):=by
  have h0:(W.alloc (.map #[] 0)).ownsMap Tryz.prog 9 rawE gt' 0 (ym none):=by rw[hgt];exact World.ownsMap_made W _ _ _
  have h1:=h0.setCell (a:=⟨gf,4,none⟩) (by show gt'≠gf;omega) (.map (some gt'));rw[hw1];exact h1.mono (by omega)
 have hfl1:=hm1.files;obtain⟨fo,hfo⟩ : ∃ fo,fo=k.sz.map fun _=>gn:=⟨_,rfl⟩
 rw[<-hfo]at hfl1;have HFO:=hid hfo;obtain⟨w2,hrun,hr2,hg2,hs2⟩:=hfl1.range kStr.law (t:=148) Tryz.underlying148;have hw1':(W.setCell ⟨gf,4,none⟩ (.map (some W.heap.size))).alloc (.map #[] 0)=w1:=by
  rw[hw1,hgt,World.setCell_alloc_past _ _ _ _ hgf]
 obtain⟨r,hr⟩ : ∃ r,r=w1.heap.size:=⟨_,rfl⟩
 have hgf1:gf<w1.heap.size:=hm1.glt;have hgt1:gt'<w1.heap.size:=ht1.lt;have hgm1:gm<w1.heap.size:=hm1.lt gm (by rw[hm1.rm];simp);rw[<-hr,<-hw1']at hrun;rw[<-hr]at hr2 hgf1 hgt1 hgm1;have HM1:=hid hm1;have HT1:=hid ht1;have HR2:=hid hr2;have HG2:=hid hg2;have HS2:=hid hs2;have HK1:=hid hk1;have HGT:=hid hgt;have HR:=hid hr;have c31:((W.setCell ⟨gf,4,none⟩ (.map (some W.heap.size))).alloc (.map #[] 0)).cell? ⟨gf,3,none⟩=some (.map (some gm)):=by
  rw[hw1'];exact(cr 3 hh1)
 clear h hs hfo hfl1 hk1 hh1 hlf hm1 ht1 hr2 hg2 hs2 x1 hw1 hw1' hr hgt;go_enter Tryz.func65,Tryz.ntmps65;go_wp2_with fail;clear hmm c31 c3 c4 f4 hrun n1 n2;go_loopw [2,3] (fun _ _ wr=>∃ left cnt o',wr.ranges Tryz.prog 9 rawE gm r 1 (ym fo) left cnt/\wr.ownsMap Tryz.prog 9 rawE gt' 1 (ym o')/\FsP wr φ gf gl C k gc ga gm (some gt') gn qn lv/\Keep (fun j=>j≠gf) W wr/\r<wr.heap.size) (fun _ _ wr=>wr.rangeLeft gm r);case atStart=>
  have hk2:Keep (fun _=>True) w1 w2:=(zl HG2.out).mono fun j _ _=>by simp
  refine⟨_,_,none,HR2.out,zad HT1.out hk2 trivial,HM1.out.keep (hk2.mono fun _ _ _=>trivial),HK1.out.trans (hk2.mono fun _ _ _=>trivial),by have:=HS2.out;have:=HR.out;omega⟩
 case round=>
  obtain⟨left,cnt,o',hrr,hto,hfr,hkr,hrl⟩:=hrel;go_wp2_with (at_next;refine zrv rfl _ rfl r rfl hrr ?_ ?_)
  ·go_wp2_with fail;go_end0;exact⟨rfl,_,hfr,hkr⟩
  ·intro g w3 cnt' left' ho hr3 hlt hk3 hs3 hen;obtain⟨s,hs,hge⟩ : ∃ s,k.sz=some s/\gn=g:=by
    rw[HFO.out]at ho;cases hz:k.sz with
    | none=>rw[hz]at ho;cases ho
    | some s=>rw[hz]at ho;exact⟨s,rfl,Option.some.inj ho⟩
   subst hge;have hf3:=hfr.keep (hk3.mono fun j hj _ e=>by have:=HM1.out.lt j hj;have:=HR.out;omega);have ht3:=zad hto hk3 (show gt'≠r by omega);have hWr:W.heap.size<=gt':=by rw[HGT.out];exact Nat.le_refl _
   have hkr3:Keep (fun j=>j≠gf) W w3:=hkr.past hk3 fun j hj _=>show j≠r by omega
   obtain⟨hn,hφn,hφq⟩:=hf3.node s hs;have HN:=hid hn;have c4:w3.cell? ⟨gf,4,none⟩=some (.map (some gt')):=(cr 4 hf3.head)
   have HF3:=hid hf3;have HT3:=hid ht3;have HK3:=hid hkr3;have HR3:=hid hr3;have hlr:w3.rangeLeft gm r<wr.rangeLeft gm r:=by rw[hr3.left_eq,hrr.left_eq];exact hlt
   have HLR:=hid hlr;have hs8:=HS.out s hs;have hw3:r<w3.heap.size:=by omega
   clear hrr hto hfr hkr hr3 hlt hk3 hs3 hf3 ht3 hkr3 hn hφn hφq hlr hs ho;obtain⟨nm,hnm⟩ : ∃ nm,nm=seg0:=⟨_,rfl⟩
   rw[<-hnm]at hen;rw[<-hnm];have HSG:=hid hnm;clear hnm;go_wp2_with go_in;have hxd:Ext w3 w3.drew:=(Ext.refl _).drew;refine zr (fun w'=>w'.cell? ⟨gf,4,none⟩=some (.map (some gt'))) [7] (by kernel_rfl) (Ext.cellS hxd c4) (fun hS=>?_);(refine za 0 rfl ?_;(try simp only[Act.put,tq0,tq1,tq2,tq3,tq4,tq5]));(refine za 1 rfl ?_;(try simp only[Act.put,tq0,tq1,tq2,tq3,tq4,tq5]));(refine za 2 rfl ?_;(try simp only[Act.put,tq0,tq1,tq2,tq3,tq4,tq5]));(refine za 3 rfl ?_;(try simp only[Act.put,tq0,tq1,tq2,tq3,tq4,tq5]));(refine za 4 rfl ?_;(try simp only[Act.put,tq0,tq1,tq2,tq3,tq4,tq5]));(refine za 5 rfl ?_;(try simp only[Act.put,tq0,tq1,tq2,tq3,tq4,tq5]));refine ze (rs:=[6]) (by kernel_rfl) (by decide) (AllT.consS rfl (fun K hK=>?_) AllT.nil);go_simp;refine(zkk w3.drew gn qn s (locs (nbN s)) (HN.out.keep (hxd.keep (fun _=>True)) trivial fun _ _=>trivial) (by rw[locs_len];unfold nbN;omega)).mono ?_;rintro e w4 ⟨g4,q4,rfl,-,-,-,hb⟩;have hx4:Ext w3 w4:=hxd.trans (Ext.of hb);clear hb hS hxd;(refine hK.out _ _ (Ext.cellS hx4 c4) (fun hS=>?_);clear hK K);have ht4:=zad HT3.out (hx4.keep (fun _=>True)) trivial;have hst : ∃ w5,(Instr.mapUpdate 148 (.map (some gt')) (.string seg0) (.pointer (some ⟨g4,0,none⟩))).run Tryz.prog w4 = .ok () w5/\w5.ownsMap Tryz.prog 9 rawE gt' 1 (ym (some g4))/\Keep (fun j=>j≠gt') w4 w5:=by
    cases o' with
    | none=>
     obtain⟨w5,hrun,h5,hmt⟩:=(jp ht4).store (t:=148) kStr.law Tryz.underlying148 (by simp[maxLen]) (kStr.key (x:=seg0) (show seg0.size<=maxLen by decide)) (d:=.held (.pointer (some ⟨g4,0,none⟩))) (ps:=[]) rfl;exact⟨w5,hrun,h5,(zl hmt.grown).mono fun j hj _ e=>hj (Option.some.inj e)⟩
    | some x=>
     obtain⟨w5,hrun,h5,hmt⟩:=(jp ht4).store (t:=148) kStr.law Tryz.underlying148 (by simp[maxLen]) (kStr.key (x:=seg0) (show seg0.size<=maxLen by decide)) (d:=.held (.pointer (some ⟨g4,0,none⟩))) (ps:=[]) rfl;exact⟨w5,hrun,jp h5,(zl hmt.grown).mono fun j hj _ e=>hj (Option.some.inj e)⟩
   obtain⟨w5,hrun,h5,hk5⟩:=hst;rw[<-HSG.out]at hrun;have H5:=hid h5;have HK5:=hid hk5;have HX4:=hid hx4;clear ht4 h5 hk5 hx4;refine ze (rs:=[7]) (by kernel_rfl) (by decide) (AllT.consF rfl rfl (fun K hK=>?_) AllT.nil);go_simp;(refine hK.out _ _ ?_;clear hK K);refine zn (by kernel_rfl) (NoPanic.normal ?_) _;go_wp2_with fail;have hz4:=HX4.out.size;have hlt3:=HF3.out.lt;have hlt1:=HM1.out.lt;have hk35:Keep (fun j=>j≠gt') w3 w5:=(HX4.out.keep _).trans HK5.out;have hr5:=zlz HR3.out hk35 (show gm≠gt' from fun e=>by have:=HPH.out gm (by rw[HM1.out.rm];simp);omega) (show r≠gt' by omega);refine⟨⟨_,_,_,hr5,H5.out,?_,HK3.out.past hk35 fun j hj _=>show j≠gt' by omega,Nat.lt_of_lt_of_le hw3 hk35.size⟩,?_⟩
   ·exact HF3.out.keep (hk35.mono fun j hj _ e=>by
     have:=HPH.out j hj;omega)
   ·rw[hr5.left_eq,<-HR3.out.left_eq];exact HLR.out
end
end
section
open Go.RowKit Go.Maps
section
variable {w W W':World}{g:Nat}{ρ ρ':Nat->Option DRol}{N:Nat}{d:Dv}{gl n:Nat}{C:Int->Bk}{P:(Int->Bk)->Prop}{φ:Nat->Option FRol}{gf:Nat}{k:FsS}{gc ga gm:Nat}{gt:Option Nat}{gn:Nat}{qn:Option Nat}{lv:Value}
theorem FsP.laidTo (h:FsP W φ gf gl C k gc ga gm gt gn qn lv) {lv':Value}{dir':Option Nat} (hφ : ∀ j,lv'.ownBlock=some j->φ j=none/\j<W'.heap.size) (hk:Keep (fun j=>j≠gf) W W')
  (hh:W'.heap[gf]? = some (.cells #[.pointer (some ⟨gl,0,none⟩),.pointer (some ⟨gc,0,none⟩),.pointer (some ⟨ga,0,none⟩),.map (some gm),.map gt,lv',.bool false] 150 (0,0)))
  (hl:RdB W' lv' (dirB dir')) :
  FsP W' (rel φ (fun j=>lv'.ownBlock=some j) .laid) gf gl C { k with dir:=dir' } gc ga gm gt gn qn lv':=by
 have hT1 : ∀ j,lv'.ownBlock=some j->φ j=none\/φ j=some .laid:=fun j hj=>.inl (hφ j hj).1;have old : ∀ {j:Nat}{r:FRol},φ j=some r->rel φ (fun j=>lv'.ownBlock=some j) .laid j=some r:=fun {j r} hj=>zb0 hT1 hj;have hne : ∀ {j:Nat}{r:FRol},φ j=some r->r≠ .fs->j≠gf:=fun {j r} hj hr e=>by subst e;rw[h.rf]at hj;exact hr (Option.some.inj hj).symm
 exact {
  head:=hh
  rf:=old h.rf
  cache:=(h.cache.keep (hk.mono fun j hj _=>hne hj (by simp))).mono fun j hj _=>old hj
  alloc:=MapAt.mono' (h.alloc.keep (hk.mono fun j hj _=>hne hj (by simp))) fun j hj=>old hj
  files:=by
   obtain⟨es,clock,h1,h2⟩:=h.files;exact⟨es,clock,(hk.block gm (hne h.rm (by simp)) (h.lt gm (by rw[h.rm];simp))).trans h1,h2⟩
  rm:=old h.rm
  node:=fun s hs=>by
   obtain⟨h1,h2,h3⟩:=h.node s hs;exact⟨h1.keep hk (hne h2 (by simp)) (fun j hj=>hne (h3 j hj) (by simp)),old h2,fun j hj=>old (h3 j hj)⟩
  laid:=hl
  rl:=fun j hj=>qv hj
  lt:=fun j hj=>by
   rcases y7 hj with hj|hj
   ·exact(hφ j hj).2
   ·exact Nat.lt_of_lt_of_le (h.lt j hj) hk.size }
theorem zx7 (h:FsB w W g ρ N d gl n C P φ gf k gc ga gm gt gn qn lv) (hN:N<=999700000) (hn:n<=100000000) (hs : ∀ s,k.sz=some s->s<=8192) (hPx : ∀ s s',P s->(∀ j:Int,20<=j->j<64->s' j=s j)->P s')
  (hC : ∀ i:Nat,i<16->C (20+(i:Int))=yj (dirB k.dir) i) (hq:k.q<=16) :
  Calls Tryz.prog 55 #[.pointer (some ⟨gf,0,none⟩)] W fun e W'=>∃ ρ' d' φ',FStep W W' ρ ρ' gl φ φ'/\
   ((e = .returned (.int .i64 0)/\(d.fuse = -1->d'.fuse = -1)/\LogAt w W' g ρ' (N+500) d' gl 64 (n+1) (ya 0 (ye (dirB k.dir) (dirB k.sz) 16) 0 C)/\
    (∃ gt' lv',FsP W' φ' gf gl (ya 0 (ye (dirB k.dir) (dirB k.sz) 16) 0 C) { k with lst:=k.now,dir:=k.sz } gc ga gm gt' gn qn lv')/\∀ j,φ' j≠none->ρ' j=none/\j≠gl/\w.heap.size<=j)\/
    (e = .returned (.int .i64 2)/\d.fuse≠ -1/\DownAt w W' g ρ' (N+500) d' 64 fun s=>(LogS 64 s n s/\P s)\/WaitS 64 s n (ye (dirB k.dir) (dirB k.sz) 16) C\/LogS 64 s (n+1) (ya 0 (ye (dirB k.dir) (dirB k.sz) 16) 0 C))):=by
 have H0:=hid h;have HS:=hid hs;have HPX:=hid hPx;have hw36 : ∀ j:Int,36<=j->ya 0 (ye (dirB k.dir) (dirB k.sz) 16) 0 C j=C j:=fun j hj=>(bg _ _ C hC 16 (by omega)).2 j fun i hi=>by omega
 have hin:=zcz (dirB k.dir) (dirB k.sz) (vk _);have hll:=vk k.dir;have hlz:=vk k.sz;obtain⟨ws,hws⟩ : ∃ ws,ws=ye (dirB k.dir) (dirB k.sz) 16:=⟨_,rfl⟩
 rw[<-hws]at hw36 hin ⊢;have HW36:=hid hw36;have HIN:=hid hin;have HWS:=hid hws;have HLL:=hid hll;have HLZ:=hid hlz;have c3:W.cell? ⟨gf,3,none⟩=some (.map (some gm)):=(cr 3 h.mem.head)
 clear h hs hPx hC hw36 hin hws hll hlz;go_enter Tryz.func55,Tryz.ntmps55;go_wp2_with fail;refine(FUse H0.out.at).mono ?_;rintro e w1 ⟨rfl,rfl⟩;go_wp2_with fail;refine(zum H0.out.mem HS.out).mono ?_;rintro e w1 ⟨v1,rfl,ho1,hb1⟩;go_wp2_with fail;have hx1:Ext W w1:=Ext.of hb1;have hB1:=H0.out.ext hx1;obtain⟨a1,c1,rfl⟩:=ho1.slice;obtain⟨a0,c0,hlv,-⟩:=hB1.mem.laid;rw[HLZ.out];rw[HLL.out]at hlv;have HLV:=hid hlv;have HB1:=hid hB1;have HX1:=hid hx1;have HO1:=hid ho1;have e0:w1.cell? ⟨gf,0,none⟩=some (.pointer (some ⟨gl,0,none⟩)):=(cr 0 hB1.mem.head)
 have e5:w1.cell? ⟨gf,5,none⟩=some (.slice a0 8192 c0):=by rw[<-hlv];exact(cr 5 hB1.mem.head)
 clear hb1 c3 hx1 ho1 hB1 hlv;have hxd:Ext w1 w1.drew:=(Ext.refl _).drew;refine zr (fun w'=>w'.cell? ⟨gf,0,none⟩=some (.pointer (some ⟨gl,0,none⟩))/\w'.cell? ⟨gf,5,none⟩=some (.slice a0 8192 c0)) [11,12] (by kernel_rfl) ⟨Ext.cellS hxd e0,Ext.cellS hxd e5⟩ (fun hS=>?_);(refine za 0 rfl ?_;(try simp only[Act.put,tq0,tq1,tq2,tq3,tq4,tq5]));(refine za 1 rfl ?_;(try simp only[Act.put,tq0,tq1,tq2,tq3,tq4,tq5]));(refine za 2 rfl ?_;(try simp only[Act.put,tq0,tq1,tq2,tq3,tq4,tq5]));(refine za 3 rfl ?_;(try simp only[Act.put,tq0,tq1,tq2,tq3,tq4,tq5]));(refine za 4 rfl ?_;(try simp only[Act.put,tq0,tq1,tq2,tq3,tq4,tq5]));(refine za 5 rfl ?_;(try simp only[Act.put,tq0,tq1,tq2,tq3,tq4,tq5]));(refine za 6 rfl ?_;(try simp only[Act.put,tq0,tq1,tq2,tq3,tq4,tq5]));(refine za 7 rfl ?_;(try simp only[Act.put,tq0,tq1,tq2,tq3,tq4,tq5]));(refine za 8 rfl ?_;(try simp only[Act.put,tq0,tq1,tq2,tq3,tq4,tq5]));(refine za 9 rfl ?_;(try simp only[Act.put,tq0,tq1,tq2,tq3,tq4,tq5]));have HRZ:=hid ((zk HO1.out).ext hxd);have HRL:=hid (show RdB w1.drew (.slice a0 8192 c0) (dirB k.dir) by rw[<-HLV.out];exact HB1.out.mem.laid.ext hxd);rw[HLZ.out]at HRZ;refine ze (rs:=[10]) (by kernel_rfl) (by decide) (AllT.consS rfl (fun K hK=>?_) AllT.nil);go_simp;refine(znd w1.drew a0 a1 c0 c1 (dirB k.dir) (dirB k.sz) HRL.out HRZ.out HLL.out HLZ.out).mono ?_;rintro e w3 ⟨v3,rfl,ho3,hx3⟩;have hx13:Ext w1 w3:=hxd.trans hx3;(refine hK.out _ _ (⟨Ext.cellS hx13 e0,Ext.cellS hx13 e5⟩) (fun hS=>?_);clear hK K);have hB3:=HB1.out.ext hx13;have hl1 : ∀ j,(Value.slice a1 8192 c1).ownBlock=some j->W.heap.size<=j/\j<w1.heap.size:=fun j hj=>by
  have:=World.ownsRow.lt HO1.out j (by rw[HLZ.out];exact hj);exact this
 have hrd:RdS rWr w3 (fun j=>ρ j=none/\j≠gl) v3 ws:=by
  rw[HWS.out];refine ho3.rd.mono fun j hj _=>?_;have hl:W.heap.size<=j:=by
   rcases hj with hj|hj
   ·exact(hl1 j hj).1
   ·have:=(ho3.lt j hj).1;have:=HX1.out.size;have:=hxd.size;omega
  exact⟨(H0.out.late hl).1,(H0.out.late hl).2.2⟩
 have HRD:=hid hrd;have HB3:=hid hB3;have HL1:=hid hl1;have HX13:=hid hx13;clear ho3 hx3 hB3 hl1 hrd hxd e0 e5 hx13 hS;refine ze (rs:=[11]) (by kernel_rfl) (by decide) (AllT.consF rfl rfl (fun K hK=>?_) AllT.nil);go_simp;refine(zwi HB3.out.put hN (by omega) hn HPX.out v3 ws HRD.out HIN.out).mono ?_;rintro e w4 ⟨ρ4,d4,hr4,hk4,hres⟩;have hst4:FStep W w4 ρ ρ4 gl φ φ:=FStep.xt (HX1.out.trans HX13.out) ⟨hr4,FNew.refl _ _,hk4.mono fun j hj _=>⟨by
  by_cases e:ρ j=none
  ·exact e
  ·exact(hj (.inl e)).elim,fun e=>hj (.inr (.inl e))⟩⟩
 have hm4:=HB3.out.mem.keep (hk4.mono fun j hj _=>⟨(HB3.out.dis j hj).1,(HB3.out.dis j hj).2.1⟩);have HD4:=hid (show ∀ j,φ j≠none->ρ4 j=none/\j≠gl/\w.heap.size<=j from fun j hj=>by
  obtain⟨q1,q2,q3⟩:=HB3.out.dis j hj;refine⟨?_,q2,q3⟩;by_cases e:ρ4 j=none
  ·exact e
  ·rcases hr4 j e with h1|h1
   ·exact(h1 q1).elim
   ·have:=HB3.out.mem.lt j hj;omega)
 have HST4:=hid hst4;have HM4:=hid hm4;have HK4:=hid hk4;have HR4:=hid hr4;clear hk4 hr4 hm4 hst4;rcases hres with⟨rfl,hlog,hf⟩|⟨rfl,hf,hdn⟩
 ·have HLOG:=hid hlog;have HF:=hid hf;clear hlog hf;(refine hK.out _ _ ?_;clear hK K);refine ze (rs:=[12]) (by kernel_rfl) (by decide) (AllT.consF rfl rfl (fun K hK=>?_) AllT.nil);go_simp;(refine hK.out _ _ ?_;clear hK K);refine zn (by kernel_rfl) (NoPanic.normal ?_) _;have f5:=zg HM4.out.head 5;have c5:=(cr 5 HM4.out.head)
  have c2:w4.cell? ⟨gf,2,none⟩=some (.pointer (some ⟨ga,0,none⟩)):=(cr 2 HM4.out.head)
  have hk5:Keep (fun j=>j≠gf) w4 (w4.setCell ⟨gf,5,none⟩ (.slice a1 8192 c1)):=(Keep.refl _ _).setCell (by simp) _;have hh5:(w4.setCell ⟨gf,5,none⟩ (.slice a1 8192 c1)).heap[gf]? = some (.cells #[.pointer (some ⟨gl,0,none⟩),.pointer (some ⟨gc,0,none⟩),.pointer (some ⟨ga,0,none⟩),.map (some gm),.map gt,.slice a1 8192 c1,.bool false] 150 (0,0)):=(zw (o:=5) HM4.out.head _).trans rfl;have hz41:w1.heap.size<=w4.heap.size:=Nat.le_trans HX13.out.size HK4.out.size;have hrz4:RdB w4 (.slice a1 8192 c1) (dirB k.sz):=by
   have h1:RdB w1 (.slice a1 8192 c1) (dirB k.sz):=by have:=zk HO1.out;rw[HLZ.out]at this;exact this
   exact Rd.carry0 (h1.ext HX13.out) HK4.out.size fun _ j hj hl=>HK4.out.block j ⟨(H0.out.late (HL1.out j hj).1).1,(H0.out.late (HL1.out j hj).1).2.2⟩ hl
  have hm5:=HM4.out.laidTo (lv':=.slice a1 8192 c1) (dir':=k.sz) (fun j hj=>⟨(H0.out.late (HL1.out j hj).1).2.1,Nat.lt_of_lt_of_le (HL1.out j hj).2 (Nat.le_trans hz41 hk5.size)⟩) hk5 hh5 (Rd.carry0 hrz4 hk5.size fun _ j hj hl=>hk5.block j (fun e=>by
   have:=(HL1.out j hj).1;have:=H0.out.mem.glt;omega) hl)
  have HM5:=hid hm5;have HK5:=hid hk5;clear hk5 hh5 hrz4 hm5 hz41;go_wp2_with fail;refine(ze3 (fun j=>rel φ (fun j=>(Value.slice a1 8192 c1).ownBlock=some j) .laid j=some .alloc) _ ga (qw k.now) (qw k.lst) HM5.out.alloc).mono ?_;rintro e w6 ⟨rfl,hal6,hk6⟩;have hgf5:=HM5.out.rf;have hlt5:=HM5.out.lt;have hn5 : ∀ j,rel φ (fun j=>(Value.slice a1 8192 c1).ownBlock=some j) .laid j≠none->φ j≠none\/(W.heap.size<=j/\j<w1.heap.size):=fun j hj=>by
   rcases y7 hj with hj|hj
   ·exact .inr (HL1.out j hj)
   ·exact .inl hj
  obtain⟨φ5,hφ5⟩ : ∃ φ5,φ5=rel φ (fun j=>(Value.slice a1 8192 c1).ownBlock=some j) .laid:=⟨_,rfl⟩
  have HM5':=HM5;rw[<-hφ5]at HM5' hal6 hk6 hlt5 hn5 hgf5;clear HM5;have hm6:=HM5'.out.allocTo (T':=za5 (fun j=>φ5 j=some .alloc) (w4.setCell ⟨gf,5,none⟩ (.slice a1 8192 c1)) w6) (fun j hj=>by
   rcases hj with hj|hj
   ·exact⟨.inr hj,Nat.lt_of_lt_of_le (hlt5 j (by rw[hj];simp)) hk6.size⟩
   ·refine⟨.inl ?_,hj.2⟩;by_cases e:φ5 j=none
    ·exact e
    ·have:=hlt5 j e;omega) hal6 (hk6.mono fun j hj _=>hj.2)
  have hn6 : ∀ j,rel φ5 (za5 (fun j=>φ5 j=some .alloc) (w4.setCell ⟨gf,5,none⟩ (.slice a1 8192 c1)) w6) .alloc j≠none->φ j≠none\/(W.heap.size<=j/\j<w1.heap.size)\/w4.heap.size<=j:=fun j hj=>by
   have h5:φ5 j≠none->φ j≠none\/(W.heap.size<=j/\j<w1.heap.size)\/w4.heap.size<=j:=fun hj=>by
    rcases hn5 j hj with h|h
    ·exact .inl h
    ·exact .inr (.inl h)
   rcases y7 hj with hj|hj
   ·rcases hj with hj|hj
    ·exact h5 (by rw[hj];simp)
    ·have h1:=hj.1;simp only[World.size_setCell]at h1;exact .inr (.inr h1)
   ·exact h5 hj
  obtain⟨φ6,hφ6⟩ : ∃ φ6,φ6=rel φ5 (za5 (fun j=>φ5 j=some .alloc) (w4.setCell ⟨gf,5,none⟩ (.slice a1 8192 c1)) w6) .alloc:=⟨_,rfl⟩
  rw[<-hφ6]at hm6 hn6;have HM6:=hid (hm6.home (C':=ya 0 ws 0 C) fun i hi=>(HW36.out _ (by omega)).symm);have hk46:Keep (fun j=>j≠gf/\φ5 j≠some .alloc) w4 w6:=(HK5.out.mono fun j hj _=>hj.1).trans (hk6.mono fun j hj _=>hj.2);have hin5 : ∀ j,φ5 j=some .alloc->φ j=some .alloc:=fun j hj=>by
   rw[hφ5]at hj;by_cases e:(Value.slice a1 8192 c1).ownBlock=some j
   ·rw[qv e]at hj;cases hj
   ·rw[qm e]at hj;exact hj
  have HIN5:=hid hin5;have HN6:=hid hn6;have HK46:=hid hk46;clear hm6 hal6 hk6 hlt5 hn5 hgf5 hn6 hk46 hin5;go_wp2_with fail;refine(zuo HM6.out HS.out).mono ?_;rintro e w7 ⟨rfl,gt7,hm7,hk7⟩;have HM7:=hid hm7;have hk47:Keep (fun j=>j≠gf/\φ5 j≠some .alloc) w4 w7:=HK46.out.trans (hk7.mono fun j hj _=>hj.1);have hkf:Keep (fun j=>φ j≠some .fs/\φ j≠some .alloc) w4 w7:=hk47.mono fun j hj _=>⟨fun e=>hj.1 (by rw[e,HM4.out.rf]),fun e=>hj.2 (HIN5.out j e)⟩
  have HKF:=hid hkf;clear hm7 hk7 hk47 hkf;go_wp2_with fail;go_ret;have hgw : ∀ j,W.heap.size<=j->w.heap.size<=j:=fun j hj=>by
   have h1:=(H0.out.dis gf (by rw[H0.out.mem.rf];simp)).2.2;have h2:=H0.out.mem.glt;omega
  refine⟨ρ4,d4,φ6,?_,.inl ⟨rfl,HF.out,HLOG.out.keepT (HKF.out.mono fun j hj _=>?_),⟨gt7,_,HM7.out⟩,fun j hj=>?_⟩⟩
  ·refine⟨HST4.out.rol,fun j hj=>?_,HST4.out.keep.trans (HKF.out.mono fun j hj _=>⟨fun e=>hj (.inr (.inr (by rw[e];simp))),fun e=>hj (.inr (.inr (by rw[e];simp)))⟩)⟩;rcases HN6.out j hj with h|h|h
   ·exact .inl h
   ·exact .inr h.1
   ·exact .inr (Nat.le_trans HST4.out.keep.size h)
  ·have hno:φ j≠none->False:=fun e=>by
    obtain⟨q1,q2,q3⟩:=HD4.out j e;rcases hj with (hj|hj)|hj
    ·exact hj q1
    ·omega
    ·exact q2 hj
   exact⟨fun e=>hno (by rw[e];simp),fun e=>hno (by rw[e];simp)⟩
  ·have hgl:gl<W.heap.size:=H0.out.put.glt;rcases HN6.out j hj with h|h|h
   ·exact HD4.out j h
   ·refine⟨?_,by omega,hgw j h.1⟩;by_cases e:ρ4 j=none
    ·exact e
    ·rcases HR4.out j e with h1|h1
     ·exact(h1 (H0.out.late h.1).1).elim
     ·have:=HX13.out.size;omega
   ·have:=HST4.out.keep.size;exact⟨HLOG.out.hm.late (Ext.refl _) h,by omega,hgw j (by omega)⟩
 ·have HDN:=hid hdn;clear hdn;(refine hK.out _ _ ?_;clear hK K);refine ze (rs:=[12]) (by kernel_rfl) (by decide) (AllT.consF rfl rfl (fun K hK=>?_) AllT.nil);go_simp;(refine hK.out _ _ ?_;clear hK K);refine zn (by kernel_rfl) (NoPanic.normal ?_) _;go_wp2_with fail;refine(zf0 HM4.out).mono ?_;rintro e w5 ⟨rfl,hk5⟩;go_wp2_with fail;go_ret;refine⟨ρ4,d4,φ,?_,.inr ⟨rfl,hf,?_⟩⟩
  ·exact HST4.out.trans ⟨RolNew.refl _ _,FNew.refl _ _,hk5.mono fun j hj _ e=>hj (.inr (.inr (by rw[e,HM4.out.rf];simp)))⟩
  ·refine { HDN.out with hm:=HDN.out.hm.kept (hk5.mono fun j hj hl e=>?_) };subst e;rcases hj with hj|hj
   ·exact hj (HD4.out _ (by rw[HM4.out.rf];simp)).1
   ·have:=(HB3.out.dis j (by rw[HM4.out.rf];simp)).2.2;omega
end
end
end Go.Proofs.YtnadlnmclameiaaGreatDoor
