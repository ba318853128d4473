/- part 20 -/
import Derived.Test.YtnadlnmclameiaaGreatDoorTS19
set_option maxRecDepth 100000
set_option maxHeartbeats 8000000
set_option linter.all false
namespace Go.Proofs.YtnadlnmclameiaaGreatDoor
section
open Go.RowKit
def ivs (l:List Int):List Value:=l.map (Value.int .i64)
@[simp] theorem zx1 (l:List Int):(ivs l).length=l.length:=by simp[ivs]
end
section
open Go.RowKit
theorem ExtEnd.ok {w w':World}{g:Nat}{q:Option Nat}{s n:Int}{L:List Int}{ls:List Run}{e:Ending} (h:ExtEnd w g q s n L ls e w') (hE:extF s n ls=0):e = .returned (.int .i64 0)/\zle w w' g q (s+n) (L++zm ls):=by
 obtain⟨h1,h2⟩:=h;rw[if_pos hE,if_pos hE]at h2;exact⟨by rw[h1,hE],h2⟩
theorem Ext.keepStep {a w w':World}{g:Nat} (h:Ext a w) (hk:Keep (fun k=>k≠g) w w') (hg:a.heap.size<=g):Ext a w':=
 Below.trans h (hk.below a.heap.size h.size fun k hk e=>by omega)
end
section
open Go.RowKit
def zbr (acc:List Run) (x:Nat):Bool:=
 match acc.getLast? with
 | some r=>decide (r.1+r.2=(x:Int))
 | none=>false
def j8 (l:List UInt8):Nat->Nat × Bool->List Run->List Run × (Nat × Bool)
 | 0,st,acc=>(acc,st)
 | m+1,st,acc=>
  if st.2=true then (acc,st)
  else j8 l m ((qj l (qj l st).2).2.1,(qj l (qj l st).2).2.2 || zbr acc (qj l st).1) (acc++[(((qj l st).1:Int),((qj l (qj l st).2).1:Int))])
theorem zp1 (l:List UInt8) (m:Nat) (st:Nat × Bool) (acc:List Run) (h:st.2=true):j8 l m st acc=(acc,st):=by
 cases m
 ·rfl
 ·unfold j8;rw[if_pos h]
theorem zgt (l:List UInt8) (m:Nat) (at0 f at1 n at2:Nat) (b1 b2:Bool) (acc:List Run) (h1:qj l (at0,false)=(f,(at1,b1))) (h2:qj l (at1,b1)=(n,(at2,b2))):j8 l (m+1) (at0,false) acc=j8 l m (at2,b2 || zbr acc f) (acc++[((f:Int),(n:Int))]):=by
 rw[j8,if_neg (by simp)];rw[h1];dsimp only;rw[h2]
theorem zp0 (l:List UInt8) (m:Nat) (at0:Nat) (bad:Bool) (acc:List Run) (h : ¬ (0<m/\bad=false)):j8 l m (at0,bad) acc=(acc,(at0,bad)):=by
 by_cases h0:m=0
 ·subst h0;rfl
 ·exact zp1 l m _ acc (by cases bad;exact absurd ⟨by omega,rfl⟩ h;rfl)
def zgu (l:List UInt8):Option (Int × List Run × Nat):=
 let s:=qj l (0,false)
 let m:=qj l s.2
 let r:=j8 l m.1 m.2 []
 if r.2.2=true\/extF 0 (s.1:Nat) r.1≠0 then none else some (((s.1:Nat):Int),r.1,r.2.1)
theorem zj7 {l:List UInt8}{s0 a0 m0 a1 aE:Nat}{b0 b1 bE:Bool}{X:List Run} (h1:qj l (0,false)=(s0,(a0,b0))) (h2:qj l (a0,b0)=(m0,(a1,b1))) (h3:j8 l m0 (a1,b1) []=(X,(aE,bE))):zgu l=if bE=true\/extF 0 (s0:Int) X≠0 then none else some ((s0:Int),X,aE):=by
 unfold zgu;simp only[h1,h2,h3]
theorem zdx (l:List UInt8) (at0:Nat) (bad:Bool) (h:at0<=l.length) : ∃ n at1 bad1,qj l (at0,bad)=(n,(at1,bad1))/\n<=32768/\at1<=l.length:=by
 have:=zsx l (at0,bad) h;exact⟨_,_,_,rfl,this.1,this.2⟩
def zv6 (w:World) (l:List UInt8) (e:Ending) (w':World):Prop:=
 (zgu l=none->e = .returned (.tuple #[.pointer none,.int .i64 0,.int .i64 61]))/\
 (∀ s xs n,zgu l=some (s,xs,n)->∃ g q,e = .returned (.tuple #[.pointer (some ⟨g,0,none⟩),.int .i64 (n:Nat),.int .i64 0])/\NodeAt w' g q s (zm xs)/\NodeOk s (zm xs)/\w.heap.size<=g/\(∀ k,q=some k->w.heap.size<=k))/\Ext w w'
theorem CurAt.below {w w':World}{gb ga gd B:Nat}{v:Value}{l:List UInt8}{st:Nat × Bool} (h:CurAt w gb ga gd v l st) (hb:Below B w w') (h1:gb<B) (h2:ga<B) (h3:gd<B) (h4:0<l.length->∀ k,v.ownBlock=some k->k<B):CurAt w' gb ga gd v l st:=by
 obtain⟨c0,hr,ha,hd,hn1,hn2,hn3,hst,hv⟩:=h;have hk:Keep (fun k=>k<B) w w':=⟨hb.os,hb.tape,hb.output,hb.size,fun k hk _=>hb.block k hk⟩
 exact⟨hk.cell c0 h1,hr.keep hk h4,by rw[hb.block ga h2];exact ha,by rw[hb.block gd h3];exact hd,hn1,hn2,hn3,hst,hv⟩
theorem CurAt.setBad {w:World}{gb ga gd:Nat}{v:Value}{l:List UInt8}{st:Nat × Bool} (h:CurAt w gb ga gd v l st):CurAt (w.setCell ⟨gd,0,none⟩ (.bool true)) gb ga gd v l (st.1,true):=by
 obtain⟨c0,hr,ha,hd,hn1,hn2,hn3,hst,hv⟩:=h;have hk:Keep (fun k=>k≠ga/\k≠gd) w (w.setCell ⟨gd,0,none⟩ (.bool true)):=(Keep.refl _ w).setCell (by simp) _;refine⟨by rw[<-c0];simp[go_sem,hn3],hr.keep hk hv,?_,?_,hn1,hn2,hn3,hst,hv⟩
 ·rw[Below.heap_setCell _ _ _ _ hn1];exact ha
 ·simp[World.setCell,Array.getElem?_modify,hd]
theorem CurAt.cells {w:World}{gb ga gd:Nat}{v:Value}{l:List UInt8}{st:Nat × Bool} (h:CurAt w gb ga gd v l st):w.cell? ⟨ga,0,none⟩=some (.int .i64 st.1)/\w.cell? ⟨gd,0,none⟩=some (.bool st.2)/\w.frozen? ⟨gd,0,none⟩=false:=by
 obtain⟨c0,hr,ha,hd,hn1,hn2,hn3,hst,hv⟩:=h;exact⟨by rw[cell_of_row _ _ _ _ _ _ ha];rfl,by rw[cell_of_row _ _ _ _ _ _ hd];rfl,by simp[World.frozen?,hd]⟩
theorem znt (w:World) (v:Value) (l:List UInt8) (hv:RdB w v l) :
  Calls Tryz.prog 112 #[v] w (zv6 w l):=by
 obtain⟨a,cap,rfl,hc1,hc2,-,hlt0⟩:=id hv;have HVB:=hid (show 0<l.length->∀ k,(Value.slice a l.length cap).ownBlock=some k->k<w.heap.size by
  intro h k hk;obtain⟨g,o,rfl,hg,-⟩:=hlt0 h;simp only[Value.ownBlock,Option.map_some,Option.some.injEq]at hk;omega)
 have hxa:Ext w (((w.alloc (.cells #[.slice a l.length cap] 33)).alloc (.cells #[.int .i64 0] 3)).alloc (.cells #[.bool false] 4)):=(((Ext.refl w).alloc _).alloc _).alloc _;have HC:=hid (show CurAt (((w.alloc (.cells #[.slice a l.length cap] 33)).alloc (.cells #[.int .i64 0] 3)).alloc (.cells #[.bool false] 4)) w.heap.size (w.heap.size+1) (w.heap.size+1+1) (.slice a l.length cap) l (0,false) from
  ⟨by simp[go_sem],hv.ext hxa,by rw[Below.block ((Ext.refl ((w.alloc (.cells #[.slice a l.length cap] 33)).alloc (.cells #[.int .i64 0] 3))).alloc _) _ (by simp)];have:=heap_alloc_new (w.alloc (.cells #[.slice a l.length cap] 33)) (.cells #[.int .i64 0] 3);simpa using this,by have:=heap_alloc_new ((w.alloc (.cells #[.slice a l.length cap] 33)).alloc (.cells #[.int .i64 0] 3)) (.cells #[.bool false] 4);simpa using this,by omega,by omega,by omega,by simp,fun h k hk=>by have:=HVB.out h k hk;omega⟩)
 clear hlt0 hc2;have hsa:(((w.alloc (.cells #[.slice a l.length cap] 33)).alloc (.cells #[.int .i64 0] 3)).alloc (.cells #[.bool false] 4)).heap.size=w.heap.size+3:=by simp
 have HX:=hid hxa;have hcapI:cap<=9223372036854775807:=by have:=hv;obtain⟨_,_,e,_,h,_⟩:=this;simp only[Value.slice.injEq]at e;obtain⟨-,-,rfl⟩:=e;unfold maxLen at h;omega
 clear hv hxa;obtain⟨s0,a0,b0,hs0,hs1,hs2⟩:=zdx l 0 false (Nat.zero_le _);obtain⟨m0,a1,b1,hm0,hm1,hm2⟩:=zdx l a0 b0 hs2;obtain⟨X,aE,bE,hR⟩ : ∃ X aE bE,j8 l m0 (a1,b1) []=(X,(aE,bE)):=⟨_,_,_,rfl⟩
 have HRF:=hid (zj7 hs0 hm0 hR);have HS0:=hid hs0;have HM0:=hid hm0;have HR0:=hid hR;clear hs0 hm0 hR;go_enter Tryz.func112,Tryz.ntmps112;go_wp2_with fail;skip
 obtain⟨wa,hwa⟩ : ∃ wa,wa=(((w.alloc (.cells #[.slice a l.length cap] 33)).alloc (.cells #[.int .i64 0] 3)).alloc (.cells #[.bool false] 4)):=⟨_,rfl⟩
 rw[<-hwa]at HC hsa HX ⊢;clear hwa;obtain⟨gd,hgd⟩ : ∃ gd,gd=w.heap.size+1+1:=⟨_,rfl⟩
 rw[<-hgd]at HC ⊢;obtain⟨ga,hga⟩ : ∃ ga,ga=w.heap.size+1:=⟨_,rfl⟩
 rw[<-hga]at HC hgd ⊢;obtain⟨gb,hgb⟩ : ∃ gb,gb=w.heap.size:=⟨_,rfl⟩
 rw[<-hgb]at HC ⊢;have hord:w.heap.size<=gb/\gb<ga/\ga<gd/\gd<w.heap.size+3:=by omega
 obtain⟨ho1,ho2,ho3,ho4⟩:=hord;clear hgb hga hgd;skip
 refine(zfk wa gb ga gd _ l _ _ _ _ _ HC.out HS0.out).mono ?_;rintro e w1 ⟨rfl,HC1,hk1⟩;skip
 go_wp2_with fail;skip
 refine(zfk w1 gb ga gd _ l _ _ _ _ _ HC1 HM0.out).mono ?_;rintro e w2 ⟨rfl,HC2,hk2⟩;skip
 have hx2:Ext w w2:=Below.trans (Below.trans HX.out (hk1.below w.heap.size (by omega) (fun k hk=>⟨by omega,by omega⟩))) (hk2.below w.heap.size (by have:=hk1.size;omega) (fun k hk=>⟨by omega,by omega⟩));have hsz2:w.heap.size+3<=w2.heap.size:=by have:=hk1.size;have:=hk2.size;omega
 have HC0:=hid HC2;clear HC HC1 HC2 hk1 hk2 hsa HX HS0 HM0;go_wp2_with fail;skip
 go_loopw [9,10] (fun u9 u10 wr=>∃ m:Nat,∃ at0:Nat,∃ bad:Bool,∃ acc:List Run,u10 = .int .i64 m/\j8 l m (at0,bad) acc=(X,(aE,bE))/\acc.length+m<=32768/\(∀ r∈acc,(0<=r.1/\r.1<=32768)/\0<=r.2/\r.2<=32768)/\CurAt wr gb ga gd (.slice a l.length cap) l (at0,bad)/\OwnR wr (w.heap.size+3) u9 acc/\w.heap.size+3<=wr.heap.size/\Ext w wr) (fun _ m _=>(intOf m).toNat);case atStart=>exact⟨m0,a1,b1,[],rfl,HR0.out,by simp;omega,by simp,HC0.out,OwnR.nil _ _,hsz2,hx2⟩
 case round=>
  obtain⟨wo,rfl⟩ : ∃ wo:World,wo=wr:=⟨_,rfl⟩
  obtain⟨m,at0,bad,acc,rfl,hRL,hml,hacc,hcur,hown,hsz,hx⟩:=hrel;have hat0:at0<=l.length:=by obtain⟨-,-,-,-,-,-,-,h,-⟩:=hcur;exact h
  have HRL:=hid hRL;have HCUR:=hid hcur;have HOWN:=hid hown;have HACC:=hid hacc;obtain⟨c1,c2,f2⟩:=hcur.cells;clear hRL hcur hown hacc hs2 hm1 hm2 HR0 HC0 hsz2 hx2;by_cases hgo:0<m/\bad=false
  ·obtain⟨hm,rfl⟩:=hgo;obtain⟨m,rfl⟩ : ∃ k,m=k+1:=⟨m-1,by omega⟩
   obtain⟨f,x1,q1,hf0,hf1,hf2⟩:=zdx l at0 false hat0;obtain⟨n,x2,q2,hn0,hn1,hn2⟩:=zdx l x1 q1 hf2;have HST:=hid (HRL.out.symm.trans (zgt l m at0 f x1 n x2 q1 q2 acc hf0 hn0));have HF0:=hid hf0;have HN0:=hid hn0;clear HRL hf0 hn0;obtain⟨a9,c9,rfl,-⟩:=HOWN.out.rd.slice;go_wp2_with fail;refine(zfk wo gb ga gd _ l _ _ _ _ _ HCUR.out HF0.out).mono ?_;rintro e w1 ⟨rfl,HC1,hk1⟩;have HO1:=HOWN.out.keep hk1 (fun k hk=>by have:=(HOWN.out.lt k hk).1;omega);have HC1':=hid HC1;have HO1':=hid HO1;clear c1 c2 f2 HC1 HO1;go_wp2_with fail;refine(zfk w1 gb ga gd _ l _ _ _ _ _ HC1'.out HN0.out).mono ?_;rintro e w2 ⟨rfl,HC2,hk2⟩;have HO2:=HO1'.out.keep hk2 (fun k hk=>by have:=(HO1'.out.lt k hk).1;omega);have hx2:Ext w w2:=Below.trans (Below.trans hx (hk1.below w.heap.size (by omega) (fun k hk=>⟨by omega,by omega⟩))) (hk2.below w.heap.size (by have:=hk1.size;omega) (fun k hk=>⟨by omega,by omega⟩));have hs2:w.heap.size+3<=w2.heap.size:=by have:=hk1.size;have:=hk2.size;omega
   obtain⟨c1,c2,f2⟩:=HC2.cells;have HCW:=hid HC2;have HOW:=hid HO2;have HXW:=hid hx2;clear HC2 HO2 hk1 hk2 HCUR HOWN hx hsz hx2 HC1' HO1' HF0 HN0;have hdne : ¬ w2.heap.size=gd:=by omega
   have hdne2 : ¬ gd=w2.heap.size:=by omega
   have hfn : ∀ r∈acc++[((f:Int),(n:Int))],(0<=r.1/\r.1<=32768)/\0<=r.2/\r.2<=32768:=by
    intro r hr;rcases List.mem_append.1 hr with h|h
    ·exact HACC.out r h
    ·obtain rfl:=List.mem_singleton.1 h;exact⟨⟨by dsimp only;omega,by dsimp only;omega⟩,by dsimp only;omega,by dsimp only;omega⟩
   have HFN:=hid hfn;clear hfn;skip
   rcases xr acc with rfl|⟨ys,kr,rfl⟩
   ·have g1:decide ((0:Int)-1≥0)=false:=by decide
    have HGL:=hid (show zbr [] f=false from rfl);go_wp2_with fail;skip
    go_quiet (fail);skip
    have HO3:=hid (show OwnR ((w2.alloc (.cells #[.int .i64 (f:Int),.int .i64 (n:Int)] 209)).drewN nq) (w.heap.size+3) (.slice a9 0 c9) ([]) from (HOW.out.ext (((Ext.refl _).alloc _).drewN nq)));have HC3:=hid (show CurAt ((w2.alloc (.cells #[.int .i64 (f:Int),.int .i64 (n:Int)] 209)).drewN nq) gb ga gd (.slice a l.length cap) l (x2,q2 || false) from by rw[Bool.or_false];exact HCW.out.below (B:=w2.heap.size) (((Ext.refl w2).alloc _).drewN nq) (by omega) (by omega) (by omega) (fun h k hk=>by have:=HVB.out h k hk;omega));have HX3:=hid (show Ext w ((w2.alloc (.cells #[.int .i64 (f:Int),.int .i64 (n:Int)] 209)).drewN nq) from (HXW.out.alloc _).drewN nq);have hs3:((w2.alloc (.cells #[.int .i64 (f:Int),.int .i64 (n:Int)] 209)).drewN nq).heap.size=w2.heap.size+1:=by simp
    have k0:((w2.alloc (.cells #[.int .i64 (f:Int),.int .i64 (n:Int)] 209)).drewN nq).cell? ⟨w2.heap.size,0,none⟩=some (.int .i64 (f:Int)):=by simp[go_sem,hdne,hdne2]
    have k1:((w2.alloc (.cells #[.int .i64 (f:Int),.int .i64 (n:Int)] 209)).drewN nq).cell? ⟨w2.heap.size,1,none⟩=some (.int .i64 (n:Int)):=by simp[go_sem,hdne,hdne2]
    have HS:=hid (zc9 ((w2.alloc (.cells #[.int .i64 (f:Int),.int .i64 (n:Int)] 209)).drewN nq) (w2.heap.size+1) ((f:Int),(n:Int)) hs3);have HOA:=hid (HO3.out.ext ((Ext.refl _).alloc (.cells #[.int .i64 (f:Int),.int .i64 (n:Int)] 209)));skip
    go_wp2_with (at_builtin;go_must (refine zbw rfl _ _ _ rfl (w.heap.size+3) (.slice a9 0 c9) ([]) rfl HOA.out _ [((f:Int),(n:Int))] rfl HS.out (by simp only[List.length_singleton];simp only[List.length_nil];omega) (by simp;omega) ?_;intro v' w' k1 k4 k5 k6))
    go_roundw;case rel=>
     refine⟨m,x2,q2 || false,([])++[((f:Int),(n:Int))],by go_num,by rw[HST.out,HGL.out],by rw[List.length_append];simp only[List.length_singleton,List.length_nil]at*;omega,HFN.out,(HC3.out.below (B:=w.heap.size+3) ((Below.refl _ _).alloc (by rw[hs3];omega) _) (by omega) (by omega) (by omega) (fun h k hk=>by have:=HVB.out h k hk;omega)).below k5 (by omega) (by omega) (by omega) (fun h k hk=>by have:=HVB.out h k hk;omega),k1,by have:=k5.size;simp at this;omega,Below.trans (HX3.out.alloc _) (k5.mono (by omega))⟩
    case measure=>simp[intOf]
   ·have hn:(ys++[kr]).length=ys.length+1:=by simp
    obtain⟨gr,cr,e,hbg,hg,c0',c1',f0',f1'⟩:=HOW.out.at ys.length (by omega);simp only[Value.slice.injEq]at e;obtain⟨rfl,-,rfl⟩:=e;have ek:(ys++[kr])[ys.length]'(by omega)=kr:=by simp
    rw[ek]at c0' c1';obtain⟨⟨hk1,hk2⟩,hk3,hk4⟩:=HACC.out kr (by simp);have HGL0:=hid (show zbr (ys++[kr]) f=decide (kr.1+kr.2=(f:Int)) by unfold zbr;rw[List.getLast?_concat]);obtain⟨kf,kl⟩:=kr;dsimp only at c0' c1' hk1 hk2 hk3 hk4 HGL0;have e1:IntKind.i64.wrap (kf+kl)=kf+kl:=IntWalk.i64_in _ (by omega);have hys:ys.length<=32768:=by omega
    rw[hn]at HOW hml ⊢;have HN:=hid hn;clear hn ek;generalize hyl:ys.length=my at*;have HM:=hid hyl;clear hyl;have i1:(my:Int)<((my+1:Nat):Int):=by omega
    have i2:(0:Int)<=(my:Int):=by omega
    have hgne : ¬ w2.heap.size=gr:=by omega
    have hgne2 : ¬ gr=w2.heap.size:=by omega
    by_cases hm:kf+kl=(f:Int)
    ·have t1:((kf+kl:Int) == (f:Int))=true:=by simpa using hm
     have HGL:=hid (show zbr (ys++[(kf,kl)]) f=true by rw[HGL0.out];exact decide_eq_true hm);go_wp2_with fail;skip
     go_quiet (fail);skip
     have HO3:=hid (show OwnR (((w2.alloc (.cells #[.int .i64 (f:Int),.int .i64 (n:Int)] 209)).drewN nq).setCell ⟨gd,0,none⟩ (.bool true)) (w.heap.size+3) (.slice (some ⟨gr,0,none⟩) (my+1) c9) (ys++[(kf,kl)]) from ((HOW.out.ext (((Ext.refl _).alloc _).drewN nq)).keep ((Keep.refl (fun k=>k≠gd) _).setCell (by simp) _) (fun k hk=>by have:=(HOW.out.lt k hk).1;omega)));have HC3:=hid (show CurAt (((w2.alloc (.cells #[.int .i64 (f:Int),.int .i64 (n:Int)] 209)).drewN nq).setCell ⟨gd,0,none⟩ (.bool true)) gb ga gd (.slice a l.length cap) l (x2,q2 || true) from by rw[Bool.or_true];exact(HCW.out.below (B:=w2.heap.size) (((Ext.refl w2).alloc _).drewN nq) (by omega) (by omega) (by omega) (fun h k hk=>by have:=HVB.out h k hk;omega)).setBad);have HX3:=hid (show Ext w (((w2.alloc (.cells #[.int .i64 (f:Int),.int .i64 (n:Int)] 209)).drewN nq).setCell ⟨gd,0,none⟩ (.bool true)) from ((HXW.out.alloc _).drewN nq).setCell (by simp;omega) _);have hs3:(((w2.alloc (.cells #[.int .i64 (f:Int),.int .i64 (n:Int)] 209)).drewN nq).setCell ⟨gd,0,none⟩ (.bool true)).heap.size=w2.heap.size+1:=by simp
     have k0:(((w2.alloc (.cells #[.int .i64 (f:Int),.int .i64 (n:Int)] 209)).drewN nq).setCell ⟨gd,0,none⟩ (.bool true)).cell? ⟨w2.heap.size,0,none⟩=some (.int .i64 (f:Int)):=by simp[go_sem,hdne,hdne2]
     have k1:(((w2.alloc (.cells #[.int .i64 (f:Int),.int .i64 (n:Int)] 209)).drewN nq).setCell ⟨gd,0,none⟩ (.bool true)).cell? ⟨w2.heap.size,1,none⟩=some (.int .i64 (n:Int)):=by simp[go_sem,hdne,hdne2]
     have HS:=hid (zc9 (((w2.alloc (.cells #[.int .i64 (f:Int),.int .i64 (n:Int)] 209)).drewN nq).setCell ⟨gd,0,none⟩ (.bool true)) (w2.heap.size+1) ((f:Int),(n:Int)) hs3);have HOA:=hid (HO3.out.ext ((Ext.refl _).alloc (.cells #[.int .i64 (f:Int),.int .i64 (n:Int)] 209)));have c2q:((w2.alloc (.cells #[.int .i64 (f:Int),.int .i64 (n:Int)] 209)).drewN nq).cell? ⟨gd,0,none⟩=some (.bool q2):=Ext.cellS (((Ext.refl w2).alloc _).drewN nq) c2;have f2q:((w2.alloc (.cells #[.int .i64 (f:Int),.int .i64 (n:Int)] 209)).drewN nq).frozen? ⟨gd,0,none⟩=false:=by rw[<-f2];unfold World.frozen?;rw[Below.block (((Ext.refl w2).alloc _).drewN nq) gd (by omega)]
     skip
     go_wp2_with (at_builtin;go_must (refine zbw rfl _ _ _ rfl (w.heap.size+3) (.slice (some ⟨gr,0,none⟩) (my+1) c9) (ys++[(kf,kl)]) rfl HOA.out _ [((f:Int),(n:Int))] rfl HS.out (by simp only[List.length_singleton];rw[HN.out];omega) (by simp;omega) ?_;intro v' w' k1 k4 k5 k6))
     go_roundw;case rel=>
      refine⟨m,x2,q2 || true,(ys++[(kf,kl)])++[((f:Int),(n:Int))],by go_num,by rw[HST.out,HGL.out],by rw[List.length_append,HN.out];simp only[List.length_singleton,List.length_nil]at*;omega,HFN.out,(HC3.out.below (B:=w.heap.size+3) ((Below.refl _ _).alloc (by rw[hs3];omega) _) (by omega) (by omega) (by omega) (fun h k hk=>by have:=HVB.out h k hk;omega)).below k5 (by omega) (by omega) (by omega) (fun h k hk=>by have:=HVB.out h k hk;omega),k1,by have:=k5.size;simp at this;omega,Below.trans (HX3.out.alloc _) (k5.mono (by omega))⟩
     case measure=>simp[intOf]
    ·have t1:((kf+kl:Int) == (f:Int))=false:=by simpa using hm
     have HGL:=hid (show zbr (ys++[(kf,kl)]) f=false by rw[HGL0.out];exact decide_eq_false hm);go_wp2_with fail;skip
     go_quiet (fail);skip
     have HO3:=hid (show OwnR ((w2.alloc (.cells #[.int .i64 (f:Int),.int .i64 (n:Int)] 209)).drewN nq) (w.heap.size+3) (.slice (some ⟨gr,0,none⟩) (my+1) c9) (ys++[(kf,kl)]) from (HOW.out.ext (((Ext.refl _).alloc _).drewN nq)));have HC3:=hid (show CurAt ((w2.alloc (.cells #[.int .i64 (f:Int),.int .i64 (n:Int)] 209)).drewN nq) gb ga gd (.slice a l.length cap) l (x2,q2 || false) from by rw[Bool.or_false];exact HCW.out.below (B:=w2.heap.size) (((Ext.refl w2).alloc _).drewN nq) (by omega) (by omega) (by omega) (fun h k hk=>by have:=HVB.out h k hk;omega));have HX3:=hid (show Ext w ((w2.alloc (.cells #[.int .i64 (f:Int),.int .i64 (n:Int)] 209)).drewN nq) from (HXW.out.alloc _).drewN nq);have hs3:((w2.alloc (.cells #[.int .i64 (f:Int),.int .i64 (n:Int)] 209)).drewN nq).heap.size=w2.heap.size+1:=by simp
     have k0:((w2.alloc (.cells #[.int .i64 (f:Int),.int .i64 (n:Int)] 209)).drewN nq).cell? ⟨w2.heap.size,0,none⟩=some (.int .i64 (f:Int)):=by simp[go_sem,hdne,hdne2]
     have k1:((w2.alloc (.cells #[.int .i64 (f:Int),.int .i64 (n:Int)] 209)).drewN nq).cell? ⟨w2.heap.size,1,none⟩=some (.int .i64 (n:Int)):=by simp[go_sem,hdne,hdne2]
     have HS:=hid (zc9 ((w2.alloc (.cells #[.int .i64 (f:Int),.int .i64 (n:Int)] 209)).drewN nq) (w2.heap.size+1) ((f:Int),(n:Int)) hs3);have HOA:=hid (HO3.out.ext ((Ext.refl _).alloc (.cells #[.int .i64 (f:Int),.int .i64 (n:Int)] 209)));skip
     go_wp2_with (at_builtin;go_must (refine zbw rfl _ _ _ rfl (w.heap.size+3) (.slice (some ⟨gr,0,none⟩) (my+1) c9) (ys++[(kf,kl)]) rfl HOA.out _ [((f:Int),(n:Int))] rfl HS.out (by simp only[List.length_singleton];rw[HN.out];omega) (by simp;omega) ?_;intro v' w' k1 k4 k5 k6))
     go_roundw;case rel=>
      refine⟨m,x2,q2 || false,(ys++[(kf,kl)])++[((f:Int),(n:Int))],by go_num,by rw[HST.out,HGL.out],by rw[List.length_append,HN.out];simp only[List.length_singleton,List.length_nil]at*;omega,HFN.out,(HC3.out.below (B:=w.heap.size+3) ((Below.refl _ _).alloc (by rw[hs3];omega) _) (by omega) (by omega) (by omega) (fun h k hk=>by have:=HVB.out h k hk;omega)).below k5 (by omega) (by omega) (by omega) (fun h k hk=>by have:=HVB.out h k hk;omega),k1,by have:=k5.size;simp at this;omega,Below.trans (HX3.out.alloc _) (k5.mono (by omega))⟩
     case measure=>simp[intOf]
  ·have hRe:=HRL.out.symm.trans (zp0 l m at0 bad acc hgo);simp only[Prod.mk.injEq]at hRe;obtain⟨rfl,rfl,rfl⟩:=hRe;obtain⟨a9,c9,rfl,-⟩:=HOWN.out.rd.slice;have HXO:=hid hx;have hfr:w.heap.size<=wo.heap.size:=by omega
   have hgal:ga<wo.heap.size:=by omega
   clear HRL hx;by_cases hb:bE=true
   ·subst hb;have HN:=hid (HRF.out.trans (if_pos (.inl rfl)));have hex:m=0\/0<m:=by omega
    rcases hex with rfl|hm;all_goals
     go_wp2_with (go_at_call 86;go_must (refine Calls.mono (za0 _) ?_;rintro e w' ⟨g,rfl,HNN,hg',hb'⟩;have hx':=Ext.of hb';clear hb';have c2':=hx'.cellS c2;clear c2))
     skip
     go_ret3;exact⟨fun _=>rfl,fun s xs n h=>absurd (HN.out.symm.trans h) (by simp),HXO.out.trans hx'⟩
   ·have hbf:bE=false:=by simpa using hb
    subst hbf;have hm0:m=0:=by
     by_cases h:m=0
     ·exact h
     ·exact absurd ⟨by omega,rfl⟩ hgo
    subst hm0;have hRO : ∀ r∈X,zhf r:=fun r hr=>by have:=HACC.out r hr;unfold zhf;omega
    have HRO:=hid hRO;clear hRO hb hgo;by_cases hE:extF 0 (s0:Int) X=0
    ·have HN:=hid (HRF.out.trans (if_neg (by simp[hE])));have HE:=hid hE;clear hE;go_wp2_with (first|(have HK:=hk2;fail)|(have HNN':=HNN;go_at_call 91;go_must (refine(zar _ g none 0 (s0:Int) [] HNN NodeOk.empty ⟨by omega,by omega⟩ _ X (HOWN.out.rd.ext hx') HRO.out).mono ?_;rintro e w2 he;rcases ExtEnd.ok he HE.out with⟨rfl,q2,HN2,hk2,hq2⟩;clear he;have c1'':=hk2.cell c1' (by show ga≠g;omega);clear c1'))|(go_at_call 86;go_must (refine Calls.mono (za0 _) ?_;rintro e w' ⟨g,rfl,HNN,hg',hb'⟩;have hx':=Ext.of hb';clear hb';have c2':=hx'.cellS c2;clear c2;have c1':=hx'.cellS c1;clear c1)))
     go_quiet (fail);go_wp2_with fail;go_ret3;refine⟨fun h=>absurd (HN.out.symm.trans h) (by simp),fun s xs n h=>?_,(Ext.keepStep (HXO.out.trans hx') hk2 (by omega)).drewN nq⟩;have he:=HN.out.symm.trans h;simp only[Option.some.injEq,Prod.mk.injEq]at he;obtain⟨rfl,rfl,rfl⟩:=he;have hok:=(zxd NodeOk.empty HE.out).1;rw[Int.zero_add,List.nil_append]at hok HN2;exact⟨g,q2,rfl,HN2.ext ((Ext.refl _).drewN nq),hok,by omega,fun k hk=>by rcases hq2 with h|h;rw[h]at hk;exact absurd hk (by simp);have:=h k hk;have:=hx'.size;omega⟩
    ·have HN:=hid (HRF.out.trans (if_pos (.inr hE)));have t0:(extF 0 (s0:Int) X == 0)=false:=by simpa using hE
     have HE:=hid hE;clear hE;go_wp2_with (first|(have HNN':=HNN;go_at_call 91;go_must (refine(zar _ g none 0 (s0:Int) [] HNN NodeOk.empty ⟨by omega,by omega⟩ _ X (HOWN.out.rd.ext hx') HRO.out).mono ?_;rintro e w2 ⟨rfl,q2,-,hk2,-⟩))|(go_at_call 86;go_must (refine Calls.mono (za0 _) ?_;rintro e w' ⟨g,rfl,HNN,hg',hb'⟩;have hx':=Ext.of hb';clear hb';have c2':=hx'.cellS c2;clear c2;have c1':=hx'.cellS c1;clear c1)))
     go_ret3;exact⟨fun _=>rfl,fun s xs n h=>absurd (HN.out.symm.trans h) (by simp),Ext.keepStep (HXO.out.trans hx') hk2 (by omega)⟩
end
section
open Go.RowKit
def zam (X:List Run):Prop:=∀ A a b B,X=A++a :: b :: B->a.1+a.2≠b.1
theorem zos {A:List Run}{k r:Run} (h:zam (A++[k])) (hr:k.1+k.2≠r.1):zam (A++[k]++[r]):=by
 intro C a b B e;rcases xr B with rfl|⟨B',z,rfl⟩
 ·have e2:A++[k]++[r]=C++[a]++[b]:=by rw[e];simp
  have h1:=List.append_inj' e2 rfl;obtain⟨h2,h3⟩:=h1;have h4:=List.append_inj' h2 rfl;obtain⟨-,h5⟩:=h4;simp only[List.cons.injEq,and_true]at h3 h5;subst h3 h5;exact hr
 ·have e2:A++[k]++[r]=(C++a :: b :: B')++[z]:=by rw[e];simp
  have h1:=(List.append_inj' e2 rfl).1;exact h C a b B' h1
theorem zou {A:List Run}{k k':Run} (h:zam (A++[k])) (hk:k'.1=k.1):zam (A++[k']):=by
 intro C a b B e;rcases xr B with rfl|⟨B',z,rfl⟩
 ·have e2:A++[k']=(C++[a])++[b]:=by rw[e];simp
  obtain⟨h2,h3⟩:=List.append_inj' e2 rfl;simp only[List.cons.injEq,and_true]at h3;subst h3;have:=h C a k [] (by rw[h2];simp);rw[hk];exact this
 ·have e2:A++[k']=(C++a :: b :: B')++[z]:=by rw[e];simp
  have h1:=(List.append_inj' e2 rfl).1;exact h C a b (B'++[k]) (by rw[h1];simp)
theorem zot {l:List Run}{r:Run} (h:zam l):zam (putR l r):=by
 rcases xr l with rfl|⟨A,k,rfl⟩
 ·rw[zcb];intro C a b B e;have:=congrArg List.length e;simp at this;omega
 ·rw[vh];split
  ·exact zou h rfl
  ·rename_i hne
   exact zos h hne
theorem zmc (L:List Int):zam (z8 L):=by
 have key : ∀ (M:List Int) (l:List Run),zam l->zam (M.foldl (fun l b=>putR l (b,1)) l):=by
  intro M;induction M with
  | nil=>intro l h;exact h
  | cons b M ih=>intro l h;exact ih _ (zot h)
 exact key L [] (by intro C a b B e;simp at e)
theorem ztb : ∀ (l:List Run) (need:Int),(∀ r∈l,0<=r.1/\1<=r.2/\r.1+r.2<=512)->((zm l).length:Int)=need->xx l need=true:=by
 intro l;induction l with
 | nil=>intro need _ h;simp[xx,zm]at*;omega
 | cons r l ih=>
  intro need h1 h2;have hr:=h1 r (by simp);obtain⟨f,n⟩:=r;rw[za2,List.length_append,xo]at h2;dsimp only at hr;simp only[xx,zci,Bool.and_eq_true,Bool.not_eq_true',decide_eq_false_iff_not];refine⟨by omega,ih _ (fun r hr=>h1 r (by simp[hr])) (by omega)⟩
theorem zcq {l r:List UInt8}{at0 n:Nat} (bad:Bool) (h:l.drop at0=putU n++r) (hn:n<=32768):qj l (at0,bad)=(n,(at0+(putU n).length,bad)):=by
 unfold qj;dsimp only;rw[h,qi n (by omega)];rw[if_neg (by simp;omega)]
theorem zcv {l p r:List UInt8}{k:Nat} (h:l.drop k=p++r):l.drop (k+p.length)=r:=by
 rw[<-List.drop_drop,h,List.drop_left]
theorem zl3 {acc Y:List Run}{r:Run} (h:zam (acc++r :: Y)) (x:Nat) (hx:r.1=(x:Int)):zbr acc x=false:=by
 rcases xr acc with rfl|⟨A,k,rfl⟩
 ·rfl
 ·unfold zbr;rw[List.getLast?_concat];have:=h A k r Y (by simp);rw[hx]at this;exact decide_eq_false this
theorem zn0 (l t:List UInt8) : ∀ (Y:List Run) (acc:List Run) (at0:Nat),l.drop at0=Y.flatMap runB++t->(∀ r∈Y,0<=r.1/\r.1<=32768/\0<=r.2/\r.2<=32768)->zam (acc++Y)->
  j8 l Y.length (at0,false) acc=(acc++Y,(at0+(Y.flatMap runB).length,false)):=by
 intro Y;induction Y with
 | nil=>intro acc at0 _ _ _;simp[j8]
 | cons r Y ih=>
  intro acc at0 hd hb ha;obtain⟨h1,h2,h3,h4⟩:=hb r (by simp);obtain⟨f,n⟩:=r;dsimp only at h1 h2 h3 h4;obtain⟨f,rfl⟩:=Int.eq_ofNat_of_zero_le h1;obtain⟨n,rfl⟩:=Int.eq_ofNat_of_zero_le h3;have e1:runB ((f:Int),(n:Int))=putU f++putU n:=rfl;rw[List.flatMap_cons,e1,List.append_assoc,List.append_assoc]at hd;have n1:=zcq false hd (by omega);have hd2:=zcv hd;have n2:=zcq false hd2 (by omega);have hd3:=zcv hd2;rw[List.length_cons,zgt l Y.length at0 f _ n _ false false acc n1 n2,zl3 ha f rfl,Bool.false_or,ih _ _ hd3 (fun r hr=>hb r (by simp[hr])) (by simpa using ha)];rw[List.flatMap_cons,e1];simp only[List.append_assoc,List.cons_append,List.nil_append,List.length_append,Nat.add_assoc]
theorem zn1 {s:Int}{L:List Int} (h:NodeOk s L) (t:List UInt8):zgu (xu s L++t)=some (s,z8 L,(xu s L).length):=by
 have h0:=h.lo;have h1:=h.hi;have hl:=h.len64;have hwl:=bo L;have hin:=zdk h.blk;obtain⟨n,rfl⟩:=Int.eq_ofNat_of_zero_le h0;have e0:xu (n:Int) L=putU n++(putU (z8 L).length++(z8 L).flatMap runB):=by simp[xu]
 have hd:(xu (n:Int) L++t).drop 0=putU n++(putU (z8 L).length++((z8 L).flatMap runB++t)):=by
  rw[e0];simp
 have n1:=zcq false hd (by omega);have hd2:=zcv hd;have n2:=zcq false hd2 (by omega);have hd3:=zcv hd2;have n3:=zn0 _ t (z8 L) [] _ hd3 (fun r hr=>by have:=hin r hr;omega) (by simpa using zmc L);have hx:extF 0 (n:Int) (z8 L)=0:=by
  have hnf:ql 0 (n:Int)=(nb (0+(n:Int))-nb 0,0):=by unfold ql;rw[if_neg (by omega),if_neg (by omega)]
  unfold extF;rw[hnf];have hb:xx (z8 L) (nb (0+(n:Int))-nb 0)=true:=by
   refine ztb _ _ hin ?_;rw[vy,h.len,Int.zero_add];simp[nb]
  dsimp only;rw[if_neg (by simp),if_pos hb]
 rw[zj7 n1 n2 n3,if_neg (by simp[hx]),List.nil_append];rw[e0];simp only[List.length_append,Nat.zero_add,Nat.add_assoc]
end
end Go.Proofs.YtnadlnmclameiaaGreatDoor
