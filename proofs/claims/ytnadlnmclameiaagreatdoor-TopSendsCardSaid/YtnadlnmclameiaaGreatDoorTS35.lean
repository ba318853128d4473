/- part 35 -/
import Derived.Test.YtnadlnmclameiaaGreatDoorTS34
set_option maxRecDepth 100000
set_option maxHeartbeats 8000000
set_option linter.all false
namespace Go.Proofs.YtnadlnmclameiaaGreatDoor
section
open Go.RowKit
theorem RdS.upto {α:Type}{r:Rdr α}{w':World}{B:Nat}{v:Value}{xs:List α} (h:RdS r w' (fun k=>B<=k) v xs):RdS r w' (fun k=>B<=k/\k<w'.heap.size) v xs:=h.mono fun k hk hl=>⟨hk,hl⟩
theorem jw (w:World) (o:Obj):(w.alloc o).heap.size=w.heap.size+1:=by simp
theorem znh {w:World}{ops:Array Oper}{rest:List Oper}{o:Oper}{a:Act}{Q:Exit->Act->World->Prop} (hgd:o.guard=none) (s x:Operand)
  (ho:o.op = .call { callee:=.builtin .append,args:=#[s,x],argTypes:=#[30,30] }) (base:Nat) (S:Nat->Prop)
  (v:Value) (xs:List Ev) (hs:a.eval s=v) (happ:OwnS rEO 58 w base S v xs)
  (e:Ev) (fv:Value) (h1:e.1.size<=9223372036854775807) (h2 : -9223372036854775808<=e.2.1/\e.2.1<=9223372036854775807) (h3:RdSO rF 120 w S fv e.2.2) (hfv:fv.oneCell'=true) (gb:Nat) (hx:a.eval x = .slice (some ⟨gb,0,none⟩) 1 1)
  (hrow:w.heap[gb]? = some (.cells #[.string e.1,.int .i64 e.2.1,fv] 58 (0,0))) (hSlt : ∀ k,S k->k<w.heap.size) (hl:xs.length<=1000) (hbase:base<=w.heap.size)
  (h : ∀ v' w',OwnS rEO 58 w' base S v' (xs++[e])->w.grownBy w' v.ownBlock->(∀ k,v'.ownBlock=some k->v.ownBlock=some k\/w.heap.size<=k)->wpList Tryz.prog ops Q rest (a.put o.dst v') w'):wpList Tryz.prog ops Q (o :: rest) a w:=by
 refine wpList_plain hgd fun _ hK=>za6 rEO s x 30 30 58 _ 48 ho Tryz.underlying30 zm2 rfl base S v xs hs happ _ [([.string e.1,.int .i64 e.2.1,fv],e)] hx ?_ ?_ hSlt (by simp;omega) (by simp;omega) hbase ?_
 ·refine za7 Tryz.underlying30 hrow (fun u hu=>?_) rfl;simp only[cellsOf,List.flatMap_cons,List.flatMap_nil,List.append_nil,List.mem_cons,List.not_mem_nil,or_false]at hu;rcases hu with rfl|rfl|rfl
  ·rfl
  ·rfl
  ·exact hfv
 ·intro p hp;obtain rfl:=List.mem_singleton.1 hp;exact⟨[_],_,rfl,⟨rfl,h1⟩,[_],_,rfl,⟨rfl,h2⟩,h3⟩
 ·intro v' w' k1 k2 k3;exact hK _ _ (h v' w' k1 k2 k3)
theorem zij (w:World) (S:Nat->Prop) (lv:Value) (l:List Ev) (hl:RdS rE w S lv l) (hle:l.length<=1000) (hfe : ∀ e∈l,e.2.2.length<=1000) :
  Calls Tryz.prog 41 #[lv] w fun e w'=>∃ v',e = .returned v'/\RdEs w' (fun k=>w.heap.size<=k) v' l/\Ext w w':=by
 obtain⟨la,lc,rfl,-,-⟩:=hl.slice;have HL:=hid hl;have HFE:=hid hfe;clear hl hfe;go_enter Tryz.func41,Tryz.ntmps41;go_wp2_with fail;go_loopw [3,8] (fun u3 u8 wr=>∃ i:Nat,∃ S':Nat->Prop,u8 = .int .i64 i/\i<=l.length/\OwnS rEO 58 wr w.heap.size S' u3 (l.take i)/\(∀ k,S' k->w.heap.size<=k/\k<wr.heap.size)/\Ext w wr) (fun _ u8 _=>l.length-(intOf u8).toNat);case atStart=>exact⟨0,fun _=>False,rfl,Nat.zero_le _,OwnS.nil _ _ _ _ _,fun _ h=>h.elim,Ext.refl _⟩
 case round=>
  obtain⟨wo,rfl⟩ : ∃ wo:World,wo=wr:=⟨_,rfl⟩
  obtain⟨i,S',rfl,hi,hown,hS,hx⟩:=hrel;have HX:=hid hx;have HSS:=hid hS;have htl:(l.take i).length=i:=by rw[List.length_take];omega
  obtain⟨va,vc,rfl⟩:=hown.slice;rw[htl]at hown;rw[htl];have HO:=hid hown;have HOL:=hid (fun k hk=>(hown.lt k hk));have HTL:=hid htl;clear hown hS htl;by_cases hlt:i<l.length
  ·obtain⟨g,o,cap,fv,e,hg,-,d0,d1,d2,h1,h2,h3⟩:=(HL.out.ext hx).atE i hlt;simp only[Value.slice.injEq]at e;obtain⟨rfl,-,rfl⟩:=e;obtain⟨fa,fc,rfl,-,-⟩:=h3.slice;have hfl:=HFE.out l[i] (List.getElem_mem hlt);have HTS:=hid (List.take_succ_eq_append_getElem hlt);generalize hev:l[i]=ev at d0 d1 d2 h1 h2 h3 hfl HTS;have HEV:=hid hev;obtain⟨t,n,fs⟩:=ev;dsimp only at d0 d1 d2 h1 h2 h3 hfl;obtain⟨h2a,h2b⟩:=h2;have H3:=hid h3;have hxs:=hx.size;clear hev h3 hx;go_wp2_with fail;refine(zhq _ S t n _ fs (H3.out.ext ?_) (by omega)).mono ?_
   ·(exact Ext.xt)
   rintro e w1 ⟨fv1,rfl,hr1,hx1⟩;obtain⟨fa1,fc1,rfl,-,-⟩:=hr1.slice;have HR1:=hid hr1.upto;have hz1:=hx1.size;simp only[jw]at hz1;have HX1:=hid (show Ext wo w1 from (show Ext wo _ by(exact Ext.xt)).trans hx1);clear hr1 hx1 d0 d1 d2;have HOW:=hid (show OwnS rEO 58 w1 w.heap.size (fun k=>S' k\/(wo.heap.size<=k/\k<w1.heap.size)) (.slice va i vc) (l.take i) from (HO.out.ext HX1.out).widen (fun k hk _=>.inl hk) (fun k hk h=>by
    obtain⟨_,_,_,h5,_⟩:=HO.out;rcases h with h|h
    ·exact h5 k hk h
    ·have:=(HOL.out k hk).2;omega))
   have HRR:=hid (HR1.out.mono (S':=fun k=>S' k\/(wo.heap.size<=k/\k<w1.heap.size)) (fun k hk _=>.inr ⟨by have:=hk.1;simp only[jw]at this;omega,hk.2⟩));have HSL:=hid (show ∀ k,(S' k\/(wo.heap.size<=k/\k<w1.heap.size))->w.heap.size<=k/\k<w1.heap.size from fun k hk=>by
    rcases hk with hk|hk
    ·have:=HSS.out k hk;omega
    ·exact⟨by omega,hk.2⟩)
   clear HR1;go_wp2_with (at_builtin;go_must (refine znh rfl _ _ rfl w.heap.size _ _ (l.take i) rfl (HOW.out.ext (by(exact Ext.xt))) (t,n,fs) (.slice fa1 fs.length fc1) h1 ⟨h2a,h2b⟩ (HRR.out.ext (by(exact Ext.xt))) rfl w1.heap.size rfl (heap_alloc_new _ _) (fun k hk=>by have:=(HSL.out k hk).2;simp;omega) (by rw[HTL.out];omega) (by simp;omega) ?_;intro v' w' k1 k2 k3;have K1:=hid k1;have K2:=hid k2;clear k1 k2 k3))
   go_roundw;case rel=>
    refine⟨i+1,_,by go_num,by omega,by rw[HTS.out];exact K1.out,fun k hk=>?_,?_⟩
    ·have:=HSL.out k hk;have h4:=K2.out.size;simp only[jw]at h4;omega
    ·exact((HX.out.trans HX1.out).trans (show Ext w1 _ by(exact Ext.xt))).grown K2.out (fun k hk=>(HOL.out k hk).1)
   case measure=>simp[intOf];omega
  ·obtain rfl:i=l.length:=by omega
   have hT:l.take l.length=l:=List.take_length;go_wp2_with fail;go_ret;refine⟨_,rfl,?_,HX.out⟩;have:=HO.out.rdO;rw[hT]at this;refine this.mono fun k hk _=>?_;rcases hk with hk|hk
   ·exact(HSS.out k hk).1
   ·exact(HOL.out k hk).1
end
section
open Go.RowKit
theorem zkc {st:stSt}{t:ByteArray}{b:Bool} (h:y8 60 st=(t,([],b))):rFld st=((t,false,0,⟨#[]⟩),([],true)):=by
 unfold rFld;rw[h]
theorem zkb {st:stSt}{t:ByteArray}{b:Bool}{c:UInt8}{r:List UInt8} (h:y8 60 st=(t,(c :: r,b))) (hc:c=0):rFld st=((t,false,zbl (zi r).1,⟨#[]⟩),tk (c :: r,b) (1+(zi r).2.1) (zi r).2.2):=by
 unfold rFld;rw[h];dsimp only;rw[if_pos hc]
theorem zka {st:stSt}{t:ByteArray}{b:Bool}{c:UInt8}{r:List UInt8} (h:y8 60 st=(t,(c :: r,b))) (h0 : ¬ c=0) (hc:c=1):rFld st=((t,true,0,(y8 200 (r,b)).1),(y8 200 (r,b)).2):=by
 unfold rFld;rw[h];dsimp only;rw[if_neg h0,if_pos hc]
theorem zkd {st:stSt}{t:ByteArray}{b:Bool}{c:UInt8}{r:List UInt8} (h:y8 60 st=(t,(c :: r,b))) (h0 : ¬ c=0) (h1 : ¬ c=1):rFld st=((t,false,0,⟨#[]⟩),(c :: r,true)):=by
 unfold rFld;rw[h];dsimp only;rw[if_neg h0,if_neg h1]
theorem CurT.cells {T:TypeId}{w:World}{g B:Nat}{st:stSt} (h:CurT T w g B st) : ∃ a cap,w.cell? ⟨g,0,none⟩=some (.slice a st.1.length cap)/\RdB w (.slice a st.1.length cap) st.1/\st.1.length<=cap/\cap<=9223372036854775807:=by
 obtain⟨v,h1,h2,h3,h4⟩:=h;obtain⟨a,cap,rfl,hc1,hc2,_⟩:=id h2;exact⟨a,cap,by rw[cell_of_row _ _ _ _ _ _ h1];rfl,h2,by simpa using hc1,by unfold maxLen at hc2;omega⟩
theorem RdB.first {w:World}{a:Option Addr}{n cap:Nat}{c:UInt8}{r:List UInt8} (h:RdB w (.slice a n cap) (c :: r)) : ∃ g o,a=some ⟨g,o,none⟩/\g<w.heap.size/\w.cell? ⟨g,o,none⟩=some (.int .u8 (c.toNat:Int)):=by
 obtain⟨a',cap',e,_,_,_,h4⟩:=h;simp only[Value.slice.injEq]at e;obtain⟨rfl,-,-⟩:=e;obtain⟨g,o,rfl,hg,hc⟩:=h4 (by simp);refine⟨g,o,rfl,hg,?_⟩;have:=hc 0 (by simp);rw[Nat.add_zero]at this;rw[this];simp[bvs,bv]
theorem CurT.setBad {T:TypeId}{w:World}{g B:Nat}{st:stSt} (h:CurT T w g B st):CurT T (w.setCell ⟨g,1,none⟩ (.bool true)) g B (st.1,true):=by
 obtain⟨v,h1,h2,h3,h4⟩:=h;exact⟨v,zu h1 _,h2.kept ((Keep.refl (fun k=>k≠g) w).setCell (by simp) _) (fun hn k hk=>by have:=h3 hn k hk;omega),h3,h4⟩
theorem bh {S:Nat->Prop}{a b c:World}{B:Nat} (h:Keep S a b) (k:Below B b c) (hB : ∀ x,S x->x<a.heap.size->x<B):Keep S a c:=
 ⟨k.os.trans h.os,k.tape.trans h.tape,k.output.trans h.output,Nat.le_trans h.size k.size,fun x hx hl=>(k.block x (hB x hx hl)).trans (h.block x hx hl)⟩
theorem kg {w:World}{g:Nat}{v0 v1 v2 v3:Value}:Below g w ((((w.setCell ⟨g,0,none⟩ v0).setCell ⟨g,1,none⟩ v1).setCell ⟨g,2,none⟩ v2).setCell ⟨g,3,none⟩ v3):=
 ((((Below.refl g w).setCell (Nat.le_refl _) _).setCell (Nat.le_refl _) _).setCell (Nat.le_refl _) _).setCell (Nat.le_refl _) _
theorem qc {w:World}{g:Nat}{a b c d v0 v1 v2 v3:Value}{t:TypeId} (h:w.heap[g]? = some (.cells #[a,b,c,d] t (0,0))) :
  (((((w.setCell ⟨g,0,none⟩ v0).setCell ⟨g,1,none⟩ v1).setCell ⟨g,2,none⟩ v2).setCell ⟨g,3,none⟩ v3).cell? ⟨g,0,none⟩=some v0)/\
  (((((w.setCell ⟨g,0,none⟩ v0).setCell ⟨g,1,none⟩ v1).setCell ⟨g,2,none⟩ v2).setCell ⟨g,3,none⟩ v3).cell? ⟨g,1,none⟩=some v1)/\
  (((((w.setCell ⟨g,0,none⟩ v0).setCell ⟨g,1,none⟩ v1).setCell ⟨g,2,none⟩ v2).setCell ⟨g,3,none⟩ v3).cell? ⟨g,2,none⟩=some v2)/\
  (((((w.setCell ⟨g,0,none⟩ v0).setCell ⟨g,1,none⟩ v1).setCell ⟨g,2,none⟩ v2).setCell ⟨g,3,none⟩ v3).cell? ⟨g,3,none⟩=some v3):=by
 have hr:=zu (o:=3) (zu (o:=2) (zu (o:=1) (zu (o:=0) h v0) v1) v2) v3;exact⟨(cr _ hr),(cr _ hr),(cr _ hr),(cr _ hr)⟩
theorem vi {S:Nat->Prop}{a w:World}{g:Nat}{v0 v1 v2 v3:Value} (h:Keep S a w) (hg : ¬ S g):Keep S a ((((w.setCell ⟨g,0,none⟩ v0).setCell ⟨g,1,none⟩ v1).setCell ⟨g,2,none⟩ v2).setCell ⟨g,3,none⟩ v3):=
 (((h.setCell hg _).setCell hg _).setCell hg _).setCell hg _
def zri (w:World) (g B:Nat) (st:stSt) (e:Ending) (w':World):Prop:=
 e = .returned (.agg #[.string (rFld st).1.1,.bool (rFld st).1.2.1,.int .i64 (rFld st).1.2.2.1,.string (rFld st).1.2.2.2])/\CurC w' g B (rFld st).2/\Keep (fun k=>k≠g) w w'
theorem zqr (w:World) (g B:Nat) (st:stSt) (h:CurC w g B st) (hl:st.1.length<=9223372036854775807) :
  Calls Tryz.prog 72 #[.pointer (some ⟨g,0,none⟩)] w (zri w g B st):=by
 have H:=hid h;have hgw:=h.lt;have hxa:Ext w (w.alloc (.cells #[.string .empty,.bool false,.int .i64 0,.string .empty] 120)):=(Ext.refl w).alloc _;have HXA:=hid hxa;obtain⟨T,HT⟩ : ∃ T,Hid (y8 ((60:Nat):Int) st=T):=⟨_,hid rfl⟩
 obtain⟨t,l1,b1⟩:=T;have hl1:l1.length<=9223372036854775807:=by
  have h1:=HT.out;unfold y8 tk at h1;simp only[Prod.mk.injEq]at h1;have h2:=h1.2;split at h2
  ·simp only[Prod.mk.injEq]at h2;rw[<-h2.1,List.length_drop];omega
  ·simp only[Prod.mk.injEq]at h2;rw[<-h2.1];simp
 clear h hxa;cases l1 with
 | nil=>
  have HF:=hid (zkc HT.out);go_enter Tryz.func72,Tryz.ntmps72;go_wp2_with fail;refine(jz _ g B st 60 (H.out.ext HXA.out) (by omega) hl).mono ?_;rw[HT.out];rintro en w1 ⟨rfl,HC,hk⟩;dsimp only at HC;obtain⟨a,cap,c0,hr,hc1,hc2⟩:=HC.cells;have c1:=HC.bad;dsimp only at c0 hc1 c1 hr;obtain⟨vv,hb0,-⟩:=id HC;dsimp only at hb0;have hsz:w.heap.size<w1.heap.size:=by have:=hk.size;simp at this;omega
  have hgr:w1.heap[w.heap.size]? = some (.cells #[.string .empty,.bool false,.int .i64 0,.string .empty] 120 (0,0)):=by rw[hk.block w.heap.size (by show w.heap.size≠g;omega) (by simp)];exact heap_alloc_new _ _
  have hxf:Ext w1 (w1.alloc (.cells #[.string t,.bool false,.int .i64 0,.string ⟨#[]⟩] 120)):=(Ext.refl w1).alloc _;have hgr2:(w1.alloc (.cells #[.string t,.bool false,.int .i64 0,.string ⟨#[]⟩] 120)).heap[w.heap.size]? = _:=(Below.block hxf w.heap.size hsz).trans hgr;have hg2:(w1.alloc (.cells #[.string t,.bool false,.int .i64 0,.string ⟨#[]⟩] 120)).heap[g]? = _:=(Below.block hxf g (by omega)).trans hb0;have r0:(w1.alloc (.cells #[.string t,.bool false,.int .i64 0,.string ⟨#[]⟩] 120)).cell? ⟨w.heap.size,0,none⟩=some (.string .empty):=by rw[cell_of_row _ _ _ _ _ _ hgr2];rfl
  have r1:(w1.alloc (.cells #[.string t,.bool false,.int .i64 0,.string ⟨#[]⟩] 120)).cell? ⟨w.heap.size,1,none⟩=some (.bool false):=by rw[cell_of_row _ _ _ _ _ _ hgr2];rfl
  have r2:(w1.alloc (.cells #[.string t,.bool false,.int .i64 0,.string ⟨#[]⟩] 120)).cell? ⟨w.heap.size,2,none⟩=some (.int .i64 0):=by rw[cell_of_row _ _ _ _ _ _ hgr2];rfl
  have r3:(w1.alloc (.cells #[.string t,.bool false,.int .i64 0,.string ⟨#[]⟩] 120)).cell? ⟨w.heap.size,3,none⟩=some (.string .empty):=by rw[cell_of_row _ _ _ _ _ _ hgr2];rfl
  have fr0:=zc hgr2 0;have fr1:=zc hgr2 1;have fr2:=zc hgr2 2;have fr3:=zc hgr2 3;have e0:=hxf.cellS c0;have e1:=hxf.cellS c1;have fg0:=zc hg2 0;have fg1:=zc hg2 1;have n1 : ¬ w1.heap.size=w.heap.size:=by omega
  have n2 : ¬ w.heap.size=w1.heap.size:=by omega
  have n3 : ¬ g=w.heap.size:=by omega
  have n4 : ¬ w.heap.size=g:=by omega
  have n5 : ¬ g=w1.heap.size:=by omega
  have n6 : ¬ w1.heap.size=g:=by omega
  have HCW:=hid (HC.ext hxf);have HKW:=hid (show Keep (fun k=>k≠g) w w1 from (HXA.out.keep _).trans hk);have HGR:=hid hgr2;have HG2:=hid hg2;have HR:=hid hr;have HGR1:=hid hgr;have HC1:=hid HC;clear HC hk hb0 hgr hgr2 hg2 hxf hr c0 c1;go_wp2_with fail;have HGX:=hid (show (((w1.alloc (.cells #[.string t,.bool false,.int .i64 0,.string ⟨#[]⟩] 120))).setCell ⟨g,1,none⟩ (.bool true)).heap[w.heap.size]? = _ from (Below.heap_setCell _ _ _ _ (by show w.heap.size≠g;omega)).trans HGR.out);obtain⟨q0,q1,q2,q3⟩:=qc (v0:=.string t) (v1:=.bool false) (v2:=.int .i64 0) (v3:=.string ⟨#[]⟩) HGX.out;refine bodyPost_ret (v:=.agg #[.string t,.bool false,.int .i64 0,.string ⟨#[]⟩]) (by simp[results,Tryz.results72,go_sem,q0,q1,q2,q3]) rfl ?_;refine⟨by rw[HF.out],?_,bh ((HKW.out.alloc _).setCell (by simp) _) kg (fun x hx hl=>hl)⟩;rw[HF.out];exact(CurT.setBad HCW.out).keep (vi (Keep.refl (fun k=>k≠w.heap.size) _) (by simp)) (by omega) (fun k hk=>by have:=HCW.out;obtain⟨_,_,_,_,h5⟩:=this;omega)
 | cons c r=>
  have hl1':r.length+1<=9223372036854775807:=by simpa using hl1
  by_cases hc0:c=0
  ·subst hc0;have HF:=hid (zkb HT.out rfl);have hf:=yh r;obtain⟨U,HU⟩ : ∃ U,Hid (zi r=U):=⟨_,hid rfl⟩
   rw[HU.out]at hf HF;obtain⟨u,k,er⟩:=U;dsimp only at hf HF;obtain⟨n,hn⟩ : ∃ n,zbl u=n:=⟨_,rfl⟩
   have HNN:=hid hn;rw[hn]at HF;clear hn;go_enter Tryz.func72,Tryz.ntmps72;go_wp2_with fail;refine(jz _ g B st 60 (H.out.ext HXA.out) (by omega) hl).mono ?_;rw[HT.out];rintro en w1 ⟨rfl,HC,hk⟩;dsimp only at HC;obtain⟨a,cap,c0,hr,hc1,hc2⟩:=HC.cells;have c1:=HC.bad;dsimp only at c0 hc1 c1 hr;obtain⟨vv,hb0,-⟩:=id HC;dsimp only at hb0;have hsz:w.heap.size<w1.heap.size:=by have:=hk.size;simp at this;omega
   have hgr:w1.heap[w.heap.size]? = some (.cells #[.string .empty,.bool false,.int .i64 0,.string .empty] 120 (0,0)):=by rw[hk.block w.heap.size (by show w.heap.size≠g;omega) (by simp)];exact heap_alloc_new _ _
   have hxf:Ext w1 (w1.alloc (.cells #[.string t,.bool false,.int .i64 0,.string ⟨#[]⟩] 120)):=(Ext.refl w1).alloc _;have hgr2:(w1.alloc (.cells #[.string t,.bool false,.int .i64 0,.string ⟨#[]⟩] 120)).heap[w.heap.size]? = _:=(Below.block hxf w.heap.size hsz).trans hgr;have hg2:(w1.alloc (.cells #[.string t,.bool false,.int .i64 0,.string ⟨#[]⟩] 120)).heap[g]? = _:=(Below.block hxf g (by omega)).trans hb0;have r0:(w1.alloc (.cells #[.string t,.bool false,.int .i64 0,.string ⟨#[]⟩] 120)).cell? ⟨w.heap.size,0,none⟩=some (.string .empty):=by rw[cell_of_row _ _ _ _ _ _ hgr2];rfl
   have r1:(w1.alloc (.cells #[.string t,.bool false,.int .i64 0,.string ⟨#[]⟩] 120)).cell? ⟨w.heap.size,1,none⟩=some (.bool false):=by rw[cell_of_row _ _ _ _ _ _ hgr2];rfl
   have r2:(w1.alloc (.cells #[.string t,.bool false,.int .i64 0,.string ⟨#[]⟩] 120)).cell? ⟨w.heap.size,2,none⟩=some (.int .i64 0):=by rw[cell_of_row _ _ _ _ _ _ hgr2];rfl
   have r3:(w1.alloc (.cells #[.string t,.bool false,.int .i64 0,.string ⟨#[]⟩] 120)).cell? ⟨w.heap.size,3,none⟩=some (.string .empty):=by rw[cell_of_row _ _ _ _ _ _ hgr2];rfl
   have fr0:=zc hgr2 0;have fr1:=zc hgr2 1;have fr2:=zc hgr2 2;have fr3:=zc hgr2 3;have e0:=hxf.cellS c0;have e1:=hxf.cellS c1;have fg0:=zc hg2 0;have fg1:=zc hg2 1;have n1 : ¬ w1.heap.size=w.heap.size:=by omega
   have n2 : ¬ w.heap.size=w1.heap.size:=by omega
   have n3 : ¬ g=w.heap.size:=by omega
   have n4 : ¬ w.heap.size=g:=by omega
   have n5 : ¬ g=w1.heap.size:=by omega
   have n6 : ¬ w1.heap.size=g:=by omega
   have HCW:=hid (HC.ext hxf);have HKW:=hid (show Keep (fun k=>k≠g) w w1 from (HXA.out.keep _).trans hk);have HGR:=hid hgr2;have HG2:=hid hg2;have HR:=hid hr;have HGR1:=hid hgr;have HC1:=hid HC;clear HC hk hb0 hgr hgr2 hg2 hxf hr c0 c1;obtain⟨ga,oa,rfl,hga,cb⟩:=RdB.first HR.out;have cb1:=((Ext.refl w1).alloc (.cells #[.string t,.bool false,.int .i64 0,.string ⟨#[]⟩] 120)).cellS cb;have hlc:((0:UInt8) :: r).length=r.length+1:=by simp
   have HGF:=hid (show (w1.alloc (.cells #[.string t,.bool false,.int .i64 0,.string ⟨#[]⟩] 120)).heap[w1.heap.size]? = some (.cells #[.string t,.bool false,.int .i64 0,.string ⟨#[]⟩] 120 (0,0)) from heap_alloc_new _ _);have HLC:=hid hlc;clear cb hlc;have hd:=HR.out.drop 1 (by have:=HLC.out;omega);rw[show ((0:UInt8) :: r).drop 1=r from rfl]at hd;have HD:=hid (hd.ext ((Ext.refl w1).alloc (.cells #[.string t,.bool false,.int .i64 0,.string ⟨#[]⟩] 120)));clear hd;rw[HLC.out]at e0;go_wp2_with (first|((with_reducible refine yo ?_);go_must (refine yf rfl rfl Tryz.underlying33 qe rfl rfl 1 rfl ?_ ?_;omega))|(go_at_call 119;go_must (refine(zwh _ _ r (by have:=HD.out;rw[HLC.out]at this;exact this)).mono ?_;rw[HU.out];dsimp only;rw[HNN.out];rintro e w' ⟨rfl,rfl⟩)))
   clear e0 e1 cb1 r0 r1 r2 r3 fr0 fr1 fr2 fr3 fg0 fg1;rw[show (1+(k:Int))=((1+k:Nat):Int) by omega];have hc5:CurC (w1.alloc (.cells #[.string t,.bool false,.int .i64 n,.string ⟨#[]⟩] 120)) g B ((0:UInt8) :: r,b1):=HC1.out.ext ((Ext.refl w1).alloc _);refine(zao _ g B ((0:UInt8) :: r,b1) (1+k) er hc5 (fun _=>by show 1+k<=((0:UInt8) :: r).length;have:=HLC.out;omega) (by omega) (by omega)).mono ?_;rintro en w6 ⟨rfl,HC6,hk6⟩;have hgf6:w6.heap[w1.heap.size]? = some (.cells #[.string t,.bool false,.int .i64 n,.string ⟨#[]⟩] 120 (0,0)):=(hk6.block _ (by show w1.heap.size≠g;omega) (by simp)).trans (heap_alloc_new _ _);have hgr6:w6.heap[w.heap.size]? = _:=(hk6.block _ (by show w.heap.size≠g;omega) (by simp;omega)).trans ((Below.block ((Ext.refl w1).alloc _) w.heap.size hsz).trans HGR1.out);have y0:w6.cell? ⟨w1.heap.size,0,none⟩=some (.string t):=(cr _ hgf6)
   have y1:w6.cell? ⟨w1.heap.size,1,none⟩=some (.bool false):=(cr _ hgf6)
   have y2:w6.cell? ⟨w1.heap.size,2,none⟩=some (.int .i64 n):=(cr _ hgf6)
   have y3:w6.cell? ⟨w1.heap.size,3,none⟩=some (.string ⟨#[]⟩):=(cr _ hgf6)
   have z0:w6.cell? ⟨w.heap.size,0,none⟩=some (.string .empty):=(cr _ hgr6)
   have z1:w6.cell? ⟨w.heap.size,1,none⟩=some (.bool false):=(cr _ hgr6)
   have z2:w6.cell? ⟨w.heap.size,2,none⟩=some (.int .i64 0):=(cr _ hgr6)
   have z3:w6.cell? ⟨w.heap.size,3,none⟩=some (.string .empty):=(cr _ hgr6)
   have gr0:=zc hgr6 0;have gr1:=zc hgr6 1;have gr2:=zc hgr6 2;have gr3:=zc hgr6 3;have gf0:=zc hgf6 0;have gf1:=zc hgf6 1;have gf3:=zc hgf6 3;go_wp2_with fail;have HGX:=hid hgr6;obtain⟨q0,q1,q2,q3⟩:=qc (v0:=.string t) (v1:=.bool false) (v2:=.int .i64 n) (v3:=.string ⟨#[]⟩) HGX.out;refine bodyPost_ret (v:=.agg #[.string t,.bool false,.int .i64 n,.string ⟨#[]⟩]) (by simp[results,Tryz.results72,go_sem,q0,q1,q2,q3]) rfl ?_;refine⟨by rw[HF.out],?_,bh ((HKW.out.alloc _).trans hk6) kg (fun x hx hl=>hl)⟩;rw[HF.out];exact(HC6).keep (vi (Keep.refl (fun k=>k≠w.heap.size) _) (by simp)) (by omega) (fun k hk=>by have:=HCW.out;obtain⟨_,_,_,_,h5⟩:=this;omega)
  ·by_cases hc1:c=1
   ·subst hc1;have HF:=hid (zka HT.out hc0 rfl);obtain⟨Z,HZ⟩ : ∃ Z,Hid (y8 ((200:Nat):Int) (r,b1)=Z):=⟨_,hid rfl⟩
    rw[show y8 200 (r,b1)=Z from HZ.out]at HF;obtain⟨s2,st2⟩:=Z;dsimp only at HF;go_enter Tryz.func72,Tryz.ntmps72;go_wp2_with fail;refine(jz _ g B st 60 (H.out.ext HXA.out) (by omega) hl).mono ?_;rw[HT.out];rintro en w1 ⟨rfl,HC,hk⟩;dsimp only at HC;obtain⟨a,cap,c0,hr,hc1,hc2⟩:=HC.cells;have c1:=HC.bad;dsimp only at c0 hc1 c1 hr;obtain⟨vv,hb0,-⟩:=id HC;dsimp only at hb0;have hsz:w.heap.size<w1.heap.size:=by have:=hk.size;simp at this;omega
    have hgr:w1.heap[w.heap.size]? = some (.cells #[.string .empty,.bool false,.int .i64 0,.string .empty] 120 (0,0)):=by rw[hk.block w.heap.size (by show w.heap.size≠g;omega) (by simp)];exact heap_alloc_new _ _
    have hxf:Ext w1 (w1.alloc (.cells #[.string t,.bool false,.int .i64 0,.string ⟨#[]⟩] 120)):=(Ext.refl w1).alloc _;have hgr2:(w1.alloc (.cells #[.string t,.bool false,.int .i64 0,.string ⟨#[]⟩] 120)).heap[w.heap.size]? = _:=(Below.block hxf w.heap.size hsz).trans hgr;have hg2:(w1.alloc (.cells #[.string t,.bool false,.int .i64 0,.string ⟨#[]⟩] 120)).heap[g]? = _:=(Below.block hxf g (by omega)).trans hb0;have r0:(w1.alloc (.cells #[.string t,.bool false,.int .i64 0,.string ⟨#[]⟩] 120)).cell? ⟨w.heap.size,0,none⟩=some (.string .empty):=by rw[cell_of_row _ _ _ _ _ _ hgr2];rfl
    have r1:(w1.alloc (.cells #[.string t,.bool false,.int .i64 0,.string ⟨#[]⟩] 120)).cell? ⟨w.heap.size,1,none⟩=some (.bool false):=by rw[cell_of_row _ _ _ _ _ _ hgr2];rfl
    have r2:(w1.alloc (.cells #[.string t,.bool false,.int .i64 0,.string ⟨#[]⟩] 120)).cell? ⟨w.heap.size,2,none⟩=some (.int .i64 0):=by rw[cell_of_row _ _ _ _ _ _ hgr2];rfl
    have r3:(w1.alloc (.cells #[.string t,.bool false,.int .i64 0,.string ⟨#[]⟩] 120)).cell? ⟨w.heap.size,3,none⟩=some (.string .empty):=by rw[cell_of_row _ _ _ _ _ _ hgr2];rfl
    have fr0:=zc hgr2 0;have fr1:=zc hgr2 1;have fr2:=zc hgr2 2;have fr3:=zc hgr2 3;have e0:=hxf.cellS c0;have e1:=hxf.cellS c1;have fg0:=zc hg2 0;have fg1:=zc hg2 1;have n1 : ¬ w1.heap.size=w.heap.size:=by omega
    have n2 : ¬ w.heap.size=w1.heap.size:=by omega
    have n3 : ¬ g=w.heap.size:=by omega
    have n4 : ¬ w.heap.size=g:=by omega
    have n5 : ¬ g=w1.heap.size:=by omega
    have n6 : ¬ w1.heap.size=g:=by omega
    have HCW:=hid (HC.ext hxf);have HKW:=hid (show Keep (fun k=>k≠g) w w1 from (HXA.out.keep _).trans hk);have HGR:=hid hgr2;have HG2:=hid hg2;have HR:=hid hr;have HGR1:=hid hgr;have HC1:=hid HC;clear HC hk hb0 hgr hgr2 hg2 hxf hr c0 c1;obtain⟨ga,oa,rfl,hga,cb⟩:=RdB.first HR.out;have cb1:=((Ext.refl w1).alloc (.cells #[.string t,.bool false,.int .i64 0,.string ⟨#[]⟩] 120)).cellS cb;have hlc:((1:UInt8) :: r).length=r.length+1:=by simp
    have HGF:=hid (show (w1.alloc (.cells #[.string t,.bool false,.int .i64 0,.string ⟨#[]⟩] 120)).heap[w1.heap.size]? = some (.cells #[.string t,.bool false,.int .i64 0,.string ⟨#[]⟩] 120 (0,0)) from heap_alloc_new _ _);have HLC:=hid hlc;clear cb hlc;rw[HLC.out]at e0;go_wp2_with fail;refine(zao _ g B ((1:UInt8) :: r,b1) 1 0 HCW.out (fun _=>by show 1<=((1:UInt8) :: r).length;have:=HLC.out;omega) (by omega) (by omega)).mono ?_;rintro en w5 ⟨rfl,HC5,hk5⟩;have hc5:CurC w5 g B (r,b1):=HC5;clear HC5 e0 e1 cb1 r0 r1 r2 r3 fr0 fr1 fr2 fr3 fg0 fg1;go_wp2_with fail;refine(jz w5 g B (r,b1) 200 hc5 (by omega) (by show r.length<=_;omega)).mono ?_;rw[HZ.out];rintro en w6 ⟨rfl,HC6,hk6'⟩;have hk6:Keep (fun k=>k≠g) (w1.alloc (.cells #[.string t,.bool false,.int .i64 0,.string ⟨#[]⟩] 120)) w6:=hk5.trans hk6';dsimp only at HC6;have hgf6:w6.heap[w1.heap.size]? = some (.cells #[.string t,.bool false,.int .i64 0,.string ⟨#[]⟩] 120 (0,0)):=(hk6.block _ (by show w1.heap.size≠g;omega) (by simp)).trans (heap_alloc_new _ _);have hgr6:w6.heap[w.heap.size]? = _:=(hk6.block _ (by show w.heap.size≠g;omega) (by simp;omega)).trans ((Below.block ((Ext.refl w1).alloc _) w.heap.size hsz).trans HGR1.out);have y0:w6.cell? ⟨w1.heap.size,0,none⟩=some (.string t):=(cr _ hgf6)
    have y1:w6.cell? ⟨w1.heap.size,1,none⟩=some (.bool false):=(cr _ hgf6)
    have y2:w6.cell? ⟨w1.heap.size,2,none⟩=some (.int .i64 0):=(cr _ hgf6)
    have y3:w6.cell? ⟨w1.heap.size,3,none⟩=some (.string ⟨#[]⟩):=(cr _ hgf6)
    have z0:w6.cell? ⟨w.heap.size,0,none⟩=some (.string .empty):=(cr _ hgr6)
    have z1:w6.cell? ⟨w.heap.size,1,none⟩=some (.bool false):=(cr _ hgr6)
    have z2:w6.cell? ⟨w.heap.size,2,none⟩=some (.int .i64 0):=(cr _ hgr6)
    have z3:w6.cell? ⟨w.heap.size,3,none⟩=some (.string .empty):=(cr _ hgr6)
    have gr0:=zc hgr6 0;have gr1:=zc hgr6 1;have gr2:=zc hgr6 2;have gr3:=zc hgr6 3;have gf0:=zc hgf6 0;have gf1:=zc hgf6 1;have gf3:=zc hgf6 3;go_wp2_with fail;have HGX:=hid (show ((w6.setCell ⟨w1.heap.size,1,none⟩ (.bool true)).setCell ⟨w1.heap.size,3,none⟩ (.string s2)).heap[w.heap.size]? = _ from (Below.heap_setCell _ _ _ _ (by show w.heap.size≠w1.heap.size;omega)).trans ((Below.heap_setCell _ _ _ _ (by show w.heap.size≠w1.heap.size;omega)).trans hgr6));have hBB:B<=g:=by obtain⟨_,_,_,_,h5⟩:=HC6;exact h5
    obtain⟨q0,q1,q2,q3⟩:=qc (v0:=.string t) (v1:=.bool true) (v2:=.int .i64 0) (v3:=.string s2) HGX.out;refine bodyPost_ret (v:=.agg #[.string t,.bool true,.int .i64 0,.string s2]) (by simp[results,Tryz.results72,go_sem,q0,q1,q2,q3]) rfl ?_;refine⟨by rw[HF.out],?_,bh (bh ((HKW.out.alloc _).trans hk6) (((Below.refl w.heap.size w6).setCell (by show w.heap.size<=w1.heap.size;omega) _).setCell (by show w.heap.size<=w1.heap.size;omega) _) (fun x hx hl=>hl)) kg (fun x hx hl=>hl)⟩;rw[HF.out];exact(HC6.keep (((Keep.refl (fun k=>k≠w1.heap.size) w6).setCell (by simp) _).setCell (by simp) _) (by omega) (fun k hk=>by omega)).keep (vi (Keep.refl (fun k=>k≠w.heap.size) _) (by simp)) (by omega) (fun k hk=>by have:=HCW.out;obtain⟨_,_,_,_,h5⟩:=this;omega)
   ·have HF:=hid (zkd HT.out hc0 hc1);have t0:((c.toNat:Int) == 0)=false:=by
     rw[beq_eq_false_iff_ne];intro e;exact hc0 (UInt8.toNat_inj.1 (by simpa using e))
    have t1:((c.toNat:Int) == 1)=false:=by
     rw[beq_eq_false_iff_ne];intro e;exact hc1 (UInt8.toNat_inj.1 (by simp;omega))
    go_enter Tryz.func72,Tryz.ntmps72;go_wp2_with fail;refine(jz _ g B st 60 (H.out.ext HXA.out) (by omega) hl).mono ?_;rw[HT.out];rintro en w1 ⟨rfl,HC,hk⟩;dsimp only at HC;obtain⟨a,cap,c0,hr,hc1,hc2⟩:=HC.cells;have c1:=HC.bad;dsimp only at c0 hc1 c1 hr;obtain⟨vv,hb0,-⟩:=id HC;dsimp only at hb0;have hsz:w.heap.size<w1.heap.size:=by have:=hk.size;simp at this;omega
    have hgr:w1.heap[w.heap.size]? = some (.cells #[.string .empty,.bool false,.int .i64 0,.string .empty] 120 (0,0)):=by rw[hk.block w.heap.size (by show w.heap.size≠g;omega) (by simp)];exact heap_alloc_new _ _
    have hxf:Ext w1 (w1.alloc (.cells #[.string t,.bool false,.int .i64 0,.string ⟨#[]⟩] 120)):=(Ext.refl w1).alloc _;have hgr2:(w1.alloc (.cells #[.string t,.bool false,.int .i64 0,.string ⟨#[]⟩] 120)).heap[w.heap.size]? = _:=(Below.block hxf w.heap.size hsz).trans hgr;have hg2:(w1.alloc (.cells #[.string t,.bool false,.int .i64 0,.string ⟨#[]⟩] 120)).heap[g]? = _:=(Below.block hxf g (by omega)).trans hb0;have r0:(w1.alloc (.cells #[.string t,.bool false,.int .i64 0,.string ⟨#[]⟩] 120)).cell? ⟨w.heap.size,0,none⟩=some (.string .empty):=by rw[cell_of_row _ _ _ _ _ _ hgr2];rfl
    have r1:(w1.alloc (.cells #[.string t,.bool false,.int .i64 0,.string ⟨#[]⟩] 120)).cell? ⟨w.heap.size,1,none⟩=some (.bool false):=by rw[cell_of_row _ _ _ _ _ _ hgr2];rfl
    have r2:(w1.alloc (.cells #[.string t,.bool false,.int .i64 0,.string ⟨#[]⟩] 120)).cell? ⟨w.heap.size,2,none⟩=some (.int .i64 0):=by rw[cell_of_row _ _ _ _ _ _ hgr2];rfl
    have r3:(w1.alloc (.cells #[.string t,.bool false,.int .i64 0,.string ⟨#[]⟩] 120)).cell? ⟨w.heap.size,3,none⟩=some (.string .empty):=by rw[cell_of_row _ _ _ _ _ _ hgr2];rfl
    have fr0:=zc hgr2 0;have fr1:=zc hgr2 1;have fr2:=zc hgr2 2;have fr3:=zc hgr2 3;have e0:=hxf.cellS c0;have e1:=hxf.cellS c1;have fg0:=zc hg2 0;have fg1:=zc hg2 1;have n1 : ¬ w1.heap.size=w.heap.size:=by omega
    have n2 : ¬ w.heap.size=w1.heap.size:=by omega
    have n3 : ¬ g=w.heap.size:=by omega
    have n4 : ¬ w.heap.size=g:=by omega
    have n5 : ¬ g=w1.heap.size:=by omega
    have n6 : ¬ w1.heap.size=g:=by omega
    have HCW:=hid (HC.ext hxf);have HKW:=hid (show Keep (fun k=>k≠g) w w1 from (HXA.out.keep _).trans hk);have HGR:=hid hgr2;have HG2:=hid hg2;have HR:=hid hr;have HGR1:=hid hgr;have HC1:=hid HC;clear HC hk hb0 hgr hgr2 hg2 hxf hr c0 c1;obtain⟨ga,oa,rfl,hga,cb⟩:=RdB.first HR.out;have cb1:=((Ext.refl w1).alloc (.cells #[.string t,.bool false,.int .i64 0,.string ⟨#[]⟩] 120)).cellS cb;have hlc:(c :: r).length=r.length+1:=by simp
    have HGF:=hid (show (w1.alloc (.cells #[.string t,.bool false,.int .i64 0,.string ⟨#[]⟩] 120)).heap[w1.heap.size]? = some (.cells #[.string t,.bool false,.int .i64 0,.string ⟨#[]⟩] 120 (0,0)) from heap_alloc_new _ _);have HLC:=hid hlc;clear cb hlc;rw[HLC.out]at e0;go_wp2_with fail;have HGX:=hid (show (((w1.alloc (.cells #[.string t,.bool false,.int .i64 0,.string ⟨#[]⟩] 120))).setCell ⟨g,1,none⟩ (.bool true)).heap[w.heap.size]? = _ from (Below.heap_setCell _ _ _ _ (by show w.heap.size≠g;omega)).trans HGR.out);obtain⟨q0,q1,q2,q3⟩:=qc (v0:=.string t) (v1:=.bool false) (v2:=.int .i64 0) (v3:=.string ⟨#[]⟩) HGX.out;refine bodyPost_ret (v:=.agg #[.string t,.bool false,.int .i64 0,.string ⟨#[]⟩]) (by simp[results,Tryz.results72,go_sem,q0,q1,q2,q3]) rfl ?_;refine⟨by rw[HF.out],?_,bh ((HKW.out.alloc _).setCell (by simp) _) kg (fun x hx hl=>hl)⟩;rw[HF.out];exact(CurT.setBad HCW.out).keep (vi (Keep.refl (fun k=>k≠w.heap.size) _) (by simp)) (by omega) (fun k hk=>by have:=HCW.out;obtain⟨_,_,_,_,h5⟩:=this;omega)
end
end Go.Proofs.YtnadlnmclameiaaGreatDoor
