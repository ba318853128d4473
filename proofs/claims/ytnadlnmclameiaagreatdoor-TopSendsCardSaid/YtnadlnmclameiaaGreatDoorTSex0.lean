/- part 52 -/
import Derived.Test.YtnadlnmclameiaaGreatDoorTS49
set_option maxRecDepth 100000
set_option maxHeartbeats 8000000
set_option linter.all false
namespace Go.Proofs.YtnadlnmclameiaaGreatDoor
section
open Go.RowKit
theorem zyy (w:World) (c:Int) (n:Int) (h1 : -9223372036854775808<=c/\c<=9223372036854775807) (hn:0<n) (hn2:n<=9223372036854775807) :
  Calls Tryz.prog 10 #[.int .i64 c,.int .i64 n] w fun e w'=>e = .returned (.int .i64 ((zbo c n.toNat:Nat):Int))/\w=w':=by
 obtain⟨h1,h2⟩:=h1;have hp:=zn5 c n.toNat (by omega);rw[Int.toNat_of_nonneg (by omega)]at hp;have HP:=hid hp;clear hp;by_cases hc:c<0
 ·go_enter Tryz.func10,Tryz.ntmps10;go_wp2;go_ret;exact⟨by rw[HP.out,if_pos hc,<-Int.tmod_eq_emod_of_nonneg (by omega),Int.neg_tmod];rfl,rfl⟩
 ·go_enter Tryz.func10,Tryz.ntmps10;go_wp2;go_ret;exact⟨by rw[HP.out,if_neg (by omega)];rfl,rfl⟩
end
theorem zyv (s:ByteArray) : ∀ (l:List Ev) (x:Ix) (n:Int),(vj s x n l).key=x.key:=by
 intro l;induction l with
 | nil=>intro x n;rfl
 | cons e l ih=>intro x n;rw[vj,ih];rfl
section
open Go.RowKit
theorem zys {bs:List Bat} (h:GoodB bs) (s:ByteArray) (n:Int) (k:ByteArray) (l:List Ev) (hk:k≠⟨#[]⟩) :
  (appB (appB bs s n k l).2.2 s n k l).2.2=(appB bs s n k l).2.2:=by
 rcases zhc bs s n k l with e|⟨b,e,-,e2,h1,h2,-⟩
 ·rw[e,e]
 ·rw[e];have hkey:(ixB (bs++[b])).key k=some (s,(((ixB bs).str s).length:Int),((ixB bs).all.length:Int),(l.length:Int),false):=by
   rw[zga];obtain⟨-,-,-,-,k5⟩:=zm8 h2;rw[k5,zyv];subst e2;unfold ji;dsimp only;rw[if_neg hk];dsimp only;rw[if_pos rfl]
  have hnm:kc s k=true:=by
   obtain⟨k1,-⟩:=zm8 h2;subst e2;exact k1
  have ht:tryF (ixB (bs++[b])) s n k l=(((((ixB bs).str s).length:Int),((ixB bs).all.length:Int),(l.length:Int),true),bat0,0):=by
   unfold tryF;rw[if_neg (by rw[hnm];simp),hkey];dsimp only;rw[if_neg (by simp)]
  unfold appB;rw[ht];rw[if_pos (.inr rfl)]
end
section
open Go.RowKit Go.Maps
theorem zym {α:Type} (s:Nat) (j:Nat) (hj:j<s) (u:Value) (y:α) : ∀ (gs:List (List Value × α)) (hlen : ∀ p∈gs,p.1.length=s) (i:Nat) (hi:i<gs.length),cellsOf (gs.set i (gs[i].1.set j u,y))=(cellsOf gs).set (i*s+j) u:=by
 intro gs;induction gs with
 | nil=>intro _ i hi;simp at hi
 | cons g gs ih=>
  intro hlen i hi;have hg:=hlen g (by simp);have hc : ∀ (p:List Value × α) (q:List (List Value × α)),cellsOf (p :: q)=p.1++cellsOf q:=fun p q=>by simp[cellsOf]
  cases i with
  | zero=>
   simp only[List.set_cons_zero,List.getElem_cons_zero,hc,Nat.zero_mul,Nat.zero_add];rw[List.set_append_left _ _ (by omega)]
  | succ i=>
   simp only[List.set_cons_succ,List.getElem_cons_succ,hc];rw[ih (fun p hp=>hlen p (by simp[hp])) i (by simpa using hi),List.set_append_right _ _ (by rw[hg,Nat.add_mul];omega)];congr 2
   rw[hg,Nat.add_mul];omega
theorem OwnS.putAt {α:Type}{r:Rdr α}{t:TypeId}{w:World}{base:Nat}{S:Nat->Prop}{g n cap:Nat}{xs:List α} (h:OwnS r t w base S (.slice (some ⟨g,0,none⟩) n cap) xs) (i:Nat) (hi:i<xs.length) (j:Nat) (hj:j<r.size) (u:Value) (y:α)
  (hc : ∀ cs,r.rd w S cs xs[i]->r.rd w S (cs.set j u) y):OwnS r t (w.setCell ⟨g,i*r.size+j,none⟩ u) base S (.slice (some ⟨g,0,none⟩) n cap) (xs.set i y):=by
 obtain⟨gs,rfl,⟨h1',h2⟩,h3,h4⟩:=h;have hS : ¬ S g:=h3 g rfl;have hk:=(Keep.refl S w).setCell (p:=⟨g,i*r.size+j,none⟩) hS u;have hi':i<gs.length:=by simpa using hi
 have hlen : ∀ p∈gs,p.1.length=r.size:=fun p hp=>r.len (h4 p hp);have hrd:r.rd w S (gs[i].1.set j u) y:=hc _ (by
  have h5:=h4 gs[i] (List.getElem_mem hi');rw[List.getElem_map];exact h5)
 rcases h2 with⟨h2,h2'⟩|⟨g',cap',cur,h2,hb,hg,hn,hm,hcs,hx⟩
 ·rw[h2']at hi';exact absurd hi' (Nat.not_lt_zero _)
 ·simp only[Value.slice.injEq,Option.some.injEq,Addr.mk.injEq]at h2;obtain⟨⟨rfl,-⟩,rfl,rfl⟩:=h2;refine⟨gs.set i (gs[i].1.set j u,y),?_,⟨?_,.inr ⟨g,cap,_,?_,hb,zw hg u,?_,hm,?_,?_⟩⟩,h3,fun p hp=>?_⟩
  ·rw[List.map_set]
  ·rw[zym r.size j hj u y gs hlen i hi'];simpa using h1'
  ·rw[List.length_set]
  ·rw[List.length_set];exact hn
  ·simpa using hcs
  ·rw[zym r.size j hj u y gs hlen i hi',List.length_set];simp only[Array.toList_setIfInBounds,List.take_set];rw[hx]
  ·rcases List.mem_or_eq_of_mem_set hp with hp|rfl
   ·exact Rdr.kept (h4 p hp) hk
   ·exact Rdr.kept hrd hk
def keyB (k:ByteArray) (i:Nat):ByteArray:=⟨((k.data.toList.take 50)++[UInt8.ofNat (48+i)]).toArray⟩
def adB (i:Nat) (a:Adg):Adg:=(a.1,keyB a.2.1 i,a.2.2)
def zyj (m:List Adg) (k:Nat):List Adg:=m.mapIdx fun i a=>if i<k then adB i a else a
theorem zyq (m:List Adg):zyj m 0=m:=by
 unfold zyj;apply List.ext_getElem
 ·simp
 ·intro i h1 h2;simp
theorem zyi (m:List Adg) (k:Nat):(zyj m k).length=m.length:=by simp[zyj]
theorem zyk (m:List Adg) (k i:Nat) (hi:i<m.length):(zyj m k)[i]'(by rw[zyi];exact hi)=if i<k then adB i m[i] else m[i]:=by simp[zyj]
theorem zyr (m:List Adg) (k:Nat) (hk:k<m.length):zyj m (k+1)=(zyj m k).set k (adB k m[k]):=by
 apply List.ext_getElem
 ·simp[zyi]
 ·intro i h1 h2;rw[zyi]at h1;rw[zyk m (k+1) i h1,List.getElem_set,zyk m k i h1];by_cases e:k=i
  ·subst e;rw[if_pos (by omega),if_pos rfl]
  ·rw[if_neg e];by_cases h:i<k
   ·rw[if_pos (by omega),if_pos h]
   ·rw[if_neg (by omega),if_neg h]
theorem zy1 (k:ByteArray) (i:Nat):keyB k i≠⟨#[]⟩:=by
 intro e;have h:(keyB k i).data.toList=[]:=by rw[e]
 unfold keyB at h;simp at h
theorem zyu (k:ByteArray) (i:Nat):(keyB k i).size<=51:=by
 show (keyB k i).data.size<=51;unfold keyB;simp only[List.size_toArray,List.length_append,List.length_take,List.length_singleton];omega
theorem zyt {m:List Adg} (h : ∀ a∈m,∀ e∈a.2.2,evI e) (k:Nat) : ∀ a∈zyj m k,∀ e∈a.2.2,evI e:=by
 intro a ha;obtain⟨i,hi,rfl⟩:=List.getElem_of_mem ha;rw[zyi]at hi;rw[zyk m k i hi];split
 ·exact h m[i] (List.getElem_mem hi)
 ·exact h m[i] (List.getElem_mem hi)
end
section
open Go.RowKit Go.Maps
theorem zy2:(Tryz.prog.info? 32).map (fun i=>(i.zero,i.size,i.bytes))=some (some (.agg #[.string ⟨#[]⟩,.string ⟨#[]⟩,.slice none 0 0]),3,56):=by kernel_rfl
theorem zy0 (W:World) (b:UInt8) (c:Int) (h:(b.toNat:Int)=c):(convert 33 9 (.slice (some ⟨W.heap.size,0,none⟩) 1 1)).run Tryz.prog (W.alloc (.cells #[.int .u8 c] 5)).drew = .ok (.string ⟨[b].toArray⟩) (W.alloc (.cells #[.int .u8 c] 5)).drew:=by
 subst h;exact zb6 ((zaq (b:=[b]) (heap_alloc_new _ _) 1 rfl (by omega):RdB (W.alloc (.cells #[.int .u8 (b.toNat:Int)] 5)) _ _).ext (by(exact Ext.xt)))
theorem zyx (k:ByteArray) (i:Nat) (m:Nat) (hm:m=min k.size 50):k.extract 0 m++(⟨[UInt8.ofNat (48+i)].toArray⟩:ByteArray)=keyB k i:=by
 subst hm;apply ByteArray.ext;apply Array.ext';rw[ByteArray.data_append,ByteArray.data_extract,Array.toList_append,Array.toList_extract,List.extract_eq_take_drop,List.drop_zero,Nat.sub_zero];show k.data.toList.take (min k.size 50)++[UInt8.ofNat (48+i)]=k.data.toList.take 50++[UInt8.ofNat (48+i)]
 congr 1
 rw[List.take_eq_take_iff];have:k.size=k.data.toList.length:=rfl;omega
theorem zyp {w:World}{S:Nat->Prop}{cs:List Value}{a:Adg} (i:Nat) (h:rAd.rd w S cs a):rAd.rd w S (cs.set 1 (.string (keyB a.2.1 i))) (adB i a):=by
 obtain⟨c0,_,rfl,⟨rfl,k0⟩,c1,c2,rfl,⟨rfl,k1⟩,k2⟩:=h;exact⟨_,_,rfl,⟨rfl,k0⟩,_,_,rfl,⟨rfl,by have:=zyu a.2.1 i;show (keyB a.2.1 i).size<=9223372036854775807;omega⟩,k2⟩
theorem zyl {P U':Nat->Prop}{w4 V V':World} (k:Keep (fun j=>¬ P j) w4 V) (h:Keep (fun j=>¬ U' j) V V') (hU : ∀ j,U' j->P j\/w4.heap.size<=j):Keep (fun j=>¬ P j) w4 V':=
 (((k.mono fun j hj _=>hj.1:Keep (fun j=>¬ P j/\j<w4.heap.size) w4 V)).trans (h.mono fun j hj _ hu=>by
  rcases hU j hu with h|h
  ·exact hj.1 h
  ·have:j<w4.heap.size:=hj.2;omega)).mono fun j hj hl=>⟨hj,hl⟩
theorem zyn {W w4 V:World}{lo hi:Nat} (hx:Ext W w4) (k:Keep (fun j=>¬ (lo<=j/\j<hi)) w4 V) (hlo:W.heap.size<=lo):Ext W V:=
 Keep.ext (((hx.keep (fun j=>j<W.heap.size)).trans (k.mono fun j hj _ h=>by have:j<W.heap.size:=hj;omega)).mono fun j _ hl=>hl)
theorem StAt.ug {w W:World}{q g:Nat}{ρ:Nat->Option DRol}{N:Nat}{d:Dv}{n:Nat}{bs:List Bat}{U:Nat->Prop} (h:StAt w W q g ρ N d n bs U):U g:=h.dev.2.2.2.2.1 g (by obtain⟨_,_,_,h1⟩:=h.dev.1.dv;rw[h1.rg];simp)
theorem zyw {w W:World}{q g:Nat}{ρ:Nat->Option DRol}{N:Nat}{d:Dv}{n:Nat}{bs:List Bat}{U:Nat->Prop} (h:StAt w W q g ρ N d n bs U) :
  Calls Tryz.prog 9 #[.pointer (some ⟨g,0,none⟩),.int .i64 (-1)] W fun e W'=>e = .returned (.int .i64 0)/\∃ d',StAt w W' q g ρ N d' n bs U/\Calm d'/\Keep (fun j=>j≠g) W W':=by
 have hd:=h.dev;refine(zlg hd.1.dv (-1) (by omega)).mono ?_;rintro e W' ⟨rfl,h1,h2⟩;have h3:=hd.1.hd h1 h2;have e1:zaj d (-1)=(0,{ d with fuse:= -1 }):=by
  unfold zaj;rw[if_neg (by rw[hd.2.1.up];simp),show max (-1:Int) (-1) = -1 by omega]
 rw[e1]at h3 ⊢;exact⟨rfl,_,h.fuse h3 ⟨hd.2.1.up,by show (-1:Int)<= -1;omega,hd.2.1.rng⟩ ⟨rfl,rfl⟩ h2,⟨hd.2.1.up,rfl,hd.2.1.rng⟩,h2⟩
def zyz (w1 w2 w4:World) (g N n:Nat) (bs:List Bat) (qx:Nat) (V:World):Prop:=
 ∃ ρ' d' n' U',StAt w1 V qx g ρ' N d' n' bs U'/\Calm d'/\n'<=n/\(∀ j,U' j->(w1.heap.size<=j/\j<w2.heap.size)\/w4.heap.size<=j)/\Keep (fun j=>¬ (w1.heap.size<=j/\j<w2.heap.size)) w4 V
theorem zyo (W:World) (v0:Value) (l:List Adg) (hl:RdS rAd W (fun k=>k<W.heap.size) v0 l) (v1:Value) (stops:List Int) (hst:RdS rI W (fun k=>k<W.heap.size) v1 stops) (v2:Value) (picks:List Int) (hp:RdS rI W (fun k=>k<W.heap.size) v2 picks) :
  Calls Tryz.prog 3 #[v0,v1,v2] W fun e W'=>e = .returned (.bool true)/\Ext W W':=by
 obtain⟨va,vc,rfl,-,-⟩:=hl.slice;obtain⟨sa,sc,rfl,hsl1,hsl2⟩:=hst.slice;obtain⟨pa,pc,rfl,-,-⟩:=hp.slice;have HEV:=hid (ztm hl);have HL:=hid hl;have HSP:=hid hst;have HPK:=hid hp;have HSL:=hid (show stops.length<=9223372036854775807 from Nat.le_trans hsl1 hsl2);clear hl hst hp hsl1 hsl2;go_enter Tryz.func3,Tryz.ntmps3;go_wp2_with fail;refine(ztu W).mono ?_;rintro e w1 ⟨rfl,hx1⟩;have HX1:=hid hx1;clear hx1;go_wp2_with fail;refine(zq9 w1).mono ?_;rintro e w2 ⟨g,q,ρ,d,n,U,rfl,hst,hc,hn⟩;have HST:=hid hst;have HC:=hid hc;have HX2:=hid (HX1.out.trans hst.dev.1.ex);have HX12:=hid hst.dev.1.ex;clear hst hc;go_wp2_with fail;refine(zq9 w2).mono ?_;rintro e w3 ⟨gy,qy,ρy,dy,ny,Uy,rfl,hsty,hcy,hny⟩;have HSTY:=hid hsty;have HCY:=hid hcy;have HX23:=hid hsty.dev.1.ex;have HX3:=hid (HX2.out.trans hsty.dev.1.ex);clear hsty hcy;go_wp2_with fail;have hx3':=(Ext.refl w3).alloc (.cells #[] 32);refine(TFew _ _ va vc l (HL.out.ext (HX3.out.trans hx3'))).mono ?_;rintro e w3' ⟨rfl,rfl⟩;obtain⟨m,hm⟩ : ∃ m,m=l.take 4:=⟨_,rfl⟩
 have HM:=hid (show RdS rAd W (fun k=>k<W.heap.size) (.slice va m.length vc) m by
  have h1:=HL.out.head0 (min 4 l.length) (by omega);rw[hm,List.length_take];have e:l.take (min 4 l.length)=l.take 4:=by rw[List.take_eq_take_iff];omega
  rw[e]at h1;exact h1)
 have hm4:m.length<=4:=by rw[hm,List.length_take];omega
 have HME:=hid (show ∀ a∈m,∀ e∈a.2.2,evI e from fun a ha=>HEV.out a (by rw[hm]at ha;exact List.mem_of_mem_take ha));rw[<-hm];clear hm;have HMADE:=hid (OwnS.made rAd 32 w3 (fun k=>k<W.heap.size) (by have:=HX3.out.size;omega));obtain⟨gs1,hgs1,hsrc,hg1⟩:=RdS.src Tryz.underlying22 (HM.out.ext (HX3.out.trans hx3'));have HSRC:=hid hsrc;have HG1:=hid hg1;have HGS:=hid hgs1;have HLEN:=hid (show gs1.length=m.length by rw[hgs1,List.length_map]);clear hsrc hg1 hgs1;go_wp2_with (at_builtin;go_must (refine vw rAd rfl _ _ _ _ _ _ 56 rfl Tryz.underlying22 zy2 rfl w3.heap.size _ _ [] rfl HMADE.out _ gs1 rfl HSRC.out HG1.out (fun _ hk=>by have:=HX3.out.size;simp only[World.size_alloc];omega) (by rw[HLEN.out];simp;omega) (by rw[HLEN.out];simp;omega) (by simp) ?_;intro v8 w8 k1 k2 k3;rw[List.nil_append,<-HGS.out]at k1;have HX8:=hid (hx3'.grown k2 (fun k hk=>by cases hk;exact Nat.le_refl _));obtain⟨a8,c8,rfl⟩:=k1.slice;have HO8:=hid k1;clear k1 k2 k3))
 obtain⟨M,hM⟩ : ∃ M,M=m.length:=⟨_,rfl⟩
 rw[<-hM]at HO8 HLEN hm4 ⊢;have HMM:=hid hM;have HX38:=hid HX8.out;clear hM hx3' HMADE HSRC HG1 HGS HLEN;go_wp2_with fail;go_loopw [12] (fun u12 wr=>∃ i:Nat,i<=M/\u12 = .int .i64 (i:Int)/\OwnS rAd 32 wr w3.heap.size (fun k=>k<W.heap.size) (.slice a8 M c8) (zyj m i)/\Ext w3 wr) (fun u12 _=>M-(intOf u12).toNat);case atStart=>exact⟨0,by omega,rfl,by rw[zyq];exact HO8.out,HX38.out⟩
 case round=>
  obtain⟨wo,rfl⟩ : ∃ wo:World,wo=wr:=⟨_,rfl⟩
  obtain⟨i,hi,rfl,ho,hx⟩:=hrel;have HX:=hid hx;have HO:=hid ho;by_cases hlt:i<M
  ·obtain⟨x,hx⟩ : ∃ x,x=m[i]'(by have:=HMM.out;omega):=⟨_,rfl⟩
   have hil:i<(zyj m i).length:=by rw[zyi];have:=HMM.out;omega
   have hgi:(zyj m i)[i]=x:=by rw[zyk m i i (by have:=HMM.out;omega),if_neg (by omega),hx]
   obtain⟨g8,cc,cur,e,hb8,hg8,hS8,hr8⟩:=ho.headS (by omega);obtain⟨g9,o9,cap9,lv,e9,-,-,c0,c1,c2,k0,k1,-⟩:=ho.rd.atAd i hil;rw[zyi]at e e9;simp only[Value.slice.injEq]at e e9;obtain⟨rfl,-,rfl⟩:=e;simp only[Option.some.injEq,Addr.mk.injEq]at e9;obtain⟨⟨rfl,rfl,-⟩,-,-⟩:=e9;rw[hgi]at c0 c1 k1;simp only[Nat.zero_add]at c0 c1;have HR8:=hid hr8;have HXI:=hid hx;have HGI:=hid hgi;have HIL:=hid hil;clear hx ho hr8 c0 c2 k0;obtain⟨k50,hk50⟩ : ∃ k50,k50=min x.2.1.size 50:=⟨_,rfl⟩
   have hmin:min (x.2.1.size:Int) 50=(k50:Int):=by omega
   have hmin2:min (50:Int) (x.2.1.size:Int)=(k50:Int):=by omega
   have HCAT:=hid (zyx x.2.1 i k50 hk50);have hb1:(0:Int)<=(k50:Int):=by omega
   have hb2:(k50:Int)<=(x.2.1.size:Int):=by omega
   have hb3:k50<=x.2.1.size:=by omega
   have hin : ¬ ((i:Int)<0):=by omega
   have hin2:(i:Int)<(M:Int):=by omega
   have hw1:IntKind.i64.wrap (48+(i:Int))=48+(i:Int):=by rw[IntKind.wrap_i64] <;> omega
   have hw2:IntKind.u8.wrap (48+(i:Int))=48+(i:Int):=by
    unfold IntKind.wrap;simp[IntKind.min,IntKind.max,IntKind.bits,IntKind.signed];omega
   have hub:(((UInt8.ofNat (48+i)).toNat:Nat):Int)=48+(i:Int):=by rw[UInt8.toNat_ofNat'];omega
   have hst:=zy0 wo (UInt8.ofNat (48+i)) (48+(i:Int)) hub;obtain⟨hd,hhd⟩ : ∃ hd:ByteArray,hd=⟨[UInt8.ofNat (48+i)].toArray⟩:=⟨_,rfl⟩
   rw[<-hhd]at hst HCAT;have hd1:hd.size=1:=by rw[hhd];rfl
   have hno : ¬ 9223372036854775807<k50+hd.size:=by omega
   clear hub hhd hk50 hd1;go_wp2_with fail;have hxd:Ext wo wo.drew:=by(exact Ext.xt)
   refine jr (fun w'=>w'.cell? ⟨g8,i*3+1,none⟩=some (.string x.2.1)) 23 (by kernel_rfl) (Ext.cellS hxd c1) (fun hS=>?_);(refine zf 0 rfl ?_;(try simp only[Act.put,tq0,tq1,tq2,tq3,tq4,tq5]));(refine zf 1 rfl ?_;(try simp only[Act.put,tq0,tq1,tq2,tq3,tq4,tq5]));(refine zf 2 rfl ?_;(try simp only[Act.put,tq0,tq1,tq2,tq3,tq4,tq5]));(refine zf 3 rfl ?_;(try simp only[Act.put,tq0,tq1,tq2,tq3,tq4,tq5]));(refine zf 4 rfl ?_;(try simp only[Act.put,tq0,tq1,tq2,tq3,tq4,tq5]));(refine zf 5 rfl ?_;(try simp only[Act.put,tq0,tq1,tq2,tq3,tq4,tq5]));(refine zf 6 rfl ?_;(try simp only[Act.put,tq0,tq1,tq2,tq3,tq4,tq5]));(refine zf 7 rfl ?_;(try simp only[Act.put,tq0,tq1,tq2,tq3,tq4,tq5]));(refine zf 8 rfl ?_;(try simp only[Act.put,tq0,tq1,tq2,tq3,tq4,tq5]));(refine zf 9 rfl ?_;(try simp only[Act.put,tq0,tq1,tq2,tq3,tq4,tq5]));(refine zf 10 rfl ?_;(try simp only[Act.put,tq0,tq1,tq2,tq3,tq4,tq5]));(refine zf 11 rfl ?_;(try simp only[Act.put,tq0,tq1,tq2,tq3,tq4,tq5]));(refine zf 12 rfl ?_;(try simp only[Act.put,tq0,tq1,tq2,tq3,tq4,tq5]));(refine zf 13 rfl ?_;(try simp only[Act.put,tq0,tq1,tq2,tq3,tq4,tq5]));(refine zf 14 rfl ?_;(try simp only[Act.put,tq0,tq1,tq2,tq3,tq4,tq5]));(refine zf 15 rfl ?_;(try simp only[Act.put,tq0,tq1,tq2,tq3,tq4,tq5]));(refine zf 16 rfl ?_;(try simp only[Act.put,tq0,tq1,tq2,tq3,tq4,tq5]));(refine zf 17 rfl ?_;(try simp only[Act.put,tq0,tq1,tq2,tq3,tq4,tq5]));(refine qb (i:=18) (by kernel_rfl) rfl (fun K hK=>?_));go_simp;(refine hK.out _ _ (fun _=>Ext.cellS (by(exact Ext.xt)) c1) (fun hS=>?_);clear hK K);have hS:=hS (by decide);obtain⟨wa,hwa⟩ : ∃ wa,wa=(wo.alloc (.cells #[.int .u8 (48+(i:Int))] 5)).drew:=⟨_,rfl⟩
   rw[<-hwa]at hS ⊢;have hxa:Ext wo wa:=by rw[hwa];(exact Ext.xt)
   have hst':(convert 33 9 (.slice (some ⟨wo.heap.size,0,none⟩) 1 1)).run Tryz.prog wa = .ok (.string hd) wa:=by rw[hwa];exact hst
   clear hst hwa;(refine qb (i:=19) (by kernel_rfl) rfl (fun K hK=>?_));go_simp;(refine hK.out _ _ (fun _=>hS) (fun hS=>?_);clear hK K);have hS:=hS (by decide);(refine zf 20 rfl ?_;(try simp only[Act.put,tq0,tq1,tq2,tq3,tq4,tq5]));(refine qb (i:=21) (by kernel_rfl) rfl (fun K hK=>?_));go_simp;(refine hK.out _ _ (fun _=>hS) (fun hS=>?_);clear hK K);have hS:=hS (by decide);(refine qb (i:=22) (by kernel_rfl) rfl (fun K hK=>?_));go_simp;(refine hK.out _ _ (fun _=>hS) (fun hS=>?_);clear hK K);have hS:=hS (by decide);have f0:=zg (((hxa.keep (fun _=>True)).block g8 trivial hg8).trans HR8.out) (i*3+1);have g0:=Ext.cellS hxa c1;(refine qb (i:=23) (by kernel_rfl) rfl (fun K hK=>?_));go_simp;rw[HCAT.out];have hk4:Keep (fun k=>k≠g8) wa (wa.setCell ⟨g8,i*3+1,none⟩ (.string (keyB x.2.1 i))):=(Keep.refl _ _).setCell (p:=⟨g8,i*3+1,none⟩) (fun h=>h rfl) _;have HP:=hid ((HO.out.ext hxa).putAt i HIL.out 1 (by decide) (.string (keyB x.2.1 i)) (adB i x) (fun cs hcs=>by rw[HGI.out]at hcs;exact zyp i hcs));have HX4:=hid (show Ext w3 (wa.setCell ⟨g8,i*3+1,none⟩ (.string (keyB x.2.1 i))) from (HX.out.trans hxa).setCell hb8 _);(refine hK.out _ _ (fun h=>absurd rfl h) (fun _=>?_);clear hK K;refine js (by kernel_rfl) ?_ _);refine NoPanic.normal ?_;clear hst' hS f0 g0 hk4 hmin hmin2 hb1 hb2 hb3 hin hin2 hw1 hw2 hno;have hwi:IntKind.i64.wrap ((i:Int)+1)=(i:Int)+1:=by rw[IntKind.wrap_i64] <;> omega
   go_wp2_with fail;go_roundw;case measure=>simp[intOf];omega
   case rel=>
    refine⟨i+1,by omega,by go_num,?_,HX4.out⟩;rw[zyr m i (by have:=HMM.out;omega),<-HXI.out];exact HP.out
  ·have hie:i=M:=by omega
   subst hie;obtain⟨mk,hmk⟩ : ∃ mk,mk=zyj m i:=⟨_,rfl⟩
   have hml:i=mk.length:=by rw[hmk,zyi];exact HMM.out
   have HMK:=hid (show (∀ a∈mk,∀ e∈a.2.2,evI e)/\∀ j (h:j<mk.length),mk[j].2.1≠⟨#[]⟩ by
    subst hmk;refine⟨zyt HME.out i,fun j h=>?_⟩;rw[zyi]at h;rw[zyk m i j h,if_pos (by have:=HMM.out;omega)];exact zy1 _ _)
   have hbw : ∀ j,(Value.slice a8 i c8).ownBlock=some j->w3.heap.size<=j/\j<wo.heap.size:=fun j hj=>ho.lt j hj;have hrd:=ho.rd;rw[<-hmk]at hrd;clear hmk HO HME HM ho;subst hml;have HRD:=hid hrd;have HBW:=hid hbw;clear hrd hbw;have hUy:=HSTY.out.low;have hW1:=HX1.out.size;have hW12:=HX12.out.size;have hW3:=HX23.out.size;have hWo:=HX.out.size;have HTR:=hid (TRun (HSTY.out.ext HX.out) (by omega) (by omega) _ a8 c8 mk hm4 HRD.out (fun j hj hl h=>by
    have h1:=hUy j h;rcases hj with hj|hj
    ·omega
    ·have:=(HBW.out j hj).1;omega))
   clear hUy hW1 hW12 hW3 hWo;go_wp2_with fail;refine HTR.out.mono ?_;rintro e w4 ⟨k,v4,S4,ρ4,d4,n4,U4,hk4,rfl,hn4,hf4,ho4,hb4,hu4,hkp4,hr4,hm4',hl4,hi4,-⟩;obtain⟨hf4,rfl⟩:=hf4 HCY.out.2.1;obtain⟨a4,c4,rfl⟩:=ho4.slice;rw[kq]at ho4 hb4 ⊢;have HO4:=hid ho4;have HB4:=hid hb4;have HKP4:=hid hkp4;clear ho4 hb4 hu4 hkp4 hr4 hm4' hl4 hi4 hf4 HTR;have hsz:=HKP4.out.size;have hUy:=HSTY.out.low;have hW1:=HX1.out.size;have hW12:=HX12.out.size;have hW3:=HX23.out.size;have hWo:=HX.out.size;have HST4:=hid (show StAt w1 w4 q g ρ 4000 d n [] U from ((HST.out.ext HX23.out).ext HX.out).keep (HKP4.out.mono fun j hj _ h=>by
    have h1:=hUy j h;rcases hj with hj|hj
    ·have:=HST.out.low j hj;omega
    ·omega))
   have HW4:=hid (show W.heap.size<=w1.heap.size/\w1.heap.size<=w2.heap.size/\w2.heap.size<=w3.heap.size/\w3.heap.size<=wo.heap.size/\wo.heap.size<=w4.heap.size from⟨hW1,hW12,hW3,hWo,hsz⟩);have HX4:=hid (show Ext W w4 from by
    have h1:Keep (fun j=>j<W.heap.size) W w4:=((HX3.out.trans HX.out).keep _).trans (HKP4.out.mono fun j hj _ h=>by
     have h1:=(hUy j h).1;omega)
    exact Keep.ext (h1.mono fun j _ hl=>hl))
   have HRD4:=hid (HRD.out.kept (HKP4.out.mono fun j hj _ h=>by
    have h1:=hUy j h;rcases hj with hj|hj
    ·omega
    ·have:=(HBW.out j hj).1;omega))
   have HBW4:=hid (show ∀ j,(Value.slice a8 mk.length c8).ownBlock=some j->w3.heap.size<=j/\j<w4.heap.size from fun j hj=>⟨(HBW.out j hj).1,by have:=(HBW.out j hj).2;omega⟩);clear hsz hUy hW1 hW12 hW3 hWo HBW HRD;have HEV':=hid HEV.out;go_wp2_with fail;go_loopw [9,15,16] (fun u9 u15 u16 wr=>∃ i nn qx:Nat,i<=mk.length/\u9 = .pointer (some ⟨qx,0,none⟩)/\u15 = .int .i64 (nn:Int)/\nn<=stops.length/\u16 = .int .i64 (i:Int)/\zyz w1 w2 w4 g (4000+140000*i) (3+20*i) (stB mk i) qx wr) (fun _ _ u16 _=>mk.length-(intOf u16).toNat);case atStart=>exact⟨0,0,q,Nat.zero_le _,rfl,rfl,Nat.zero_le _,rfl,ρ,d,n,U,HST4.out,HC.out,hn,fun j hj=>.inl (HST.out.low j hj),Keep.refl _ _⟩
   case round=>
    obtain⟨wA,rfl⟩ : ∃ wA:World,wA=wr:=⟨_,rfl⟩
    obtain⟨i,nn,qx,hi,rfl,rfl,hnn,rfl,hs⟩:=hrel;have HS:=hid hs;clear hs;by_cases hlt:i<mk.length
    ·have HLT:=hid hlt;go_wp2_with fail;go_loopw [9,15,17] (fun u9 u15 u17 wr=>∃ (t nn qx:Nat) (bs:List Bat),t<=5/\u9 = .pointer (some ⟨qx,0,none⟩)/\u15 = .int .i64 (nn:Int)/\nn<=stops.length/\u17 = .int .i64 (t:Int)/\(bs=stB mk i\/bs=stB mk (i+1))/\zyz w1 w2 w4 g (4000+140000*i+22000*t) (3+20*i+3*t) bs qx wr) (fun _ _ u17 _=>6-(intOf u17).toNat);case atStart=>exact⟨0,nn,qx,stB mk i,by omega,rfl,rfl,hnn,rfl,.inl rfl,HS.out⟩
     case round=>
      clear HS hnn;obtain⟨wB,rfl⟩ : ∃ wB:World,wB=wr:=⟨_,rfl⟩
      obtain⟨t,nn,qx,bs,ht,rfl,rfl,hnn,rfl,hbs,ρ',d',n',U',hst,hcl,hn',hU',hkp⟩:=hrel;have HST':=hid hst;have HCL:=hid hcl;have HU':=hid hU';have HKP:=hid hkp;have HBS:=hid hbs;have HNN:=hid hnn;have hSL:=HSL.out;clear hst hcl hU' hkp hbs;have ht6:(t:Int)<6:=by omega
      have hpt:(nn:Int)<(stops.length:Int)/\(t:Int)<5\/¬ (nn:Int)<(stops.length:Int)\/(nn:Int)<(stops.length:Int)/\¬ (t:Int)<5:=by omega
      rcases hpt with⟨p1,p2⟩|p1|⟨p1,p2⟩;rotate_left
      go_upto_region 24 with fail;obtain⟨r3,rfl⟩ : ∃ r3:World,r3=wB:=⟨_,rfl⟩
      obtain⟨d3,rfl⟩ : ∃ d3:Dv,d3=d':=⟨_,rfl⟩
      obtain⟨n2,rfl⟩ : ∃ n2:Nat,n2=nn:=⟨_,rfl⟩
      have HST3:=hid HST'.out;have HKP3:=hid HKP.out;have HFU:=hid (show t=5->d3.fuse = -1 from fun _=>HCL.out.2.1);have HN2:=hid (show n2<=stops.length from HNN.out);clear p1 HST' HKP HNN;rotate_left
      go_upto_region 24 with fail;obtain⟨r3,rfl⟩ : ∃ r3:World,r3=wB:=⟨_,rfl⟩
      obtain⟨d3,rfl⟩ : ∃ d3:Dv,d3=d':=⟨_,rfl⟩
      obtain⟨n2,rfl⟩ : ∃ n2:Nat,n2=nn:=⟨_,rfl⟩
      have HST3:=hid HST'.out;have HKP3:=hid HKP.out;have HFU:=hid (show t=5->d3.fuse = -1 from fun _=>HCL.out.2.1);have HN2:=hid (show n2<=stops.length from HNN.out);clear p1 p2 HST' HKP HNN;rotate_left
      obtain⟨gl,ol,cl,e,hgl,hgs,hc0,hb1,hb2⟩:=(HSP.out.ext (zyn HX4.out HKP.out HW4.out.1)).atI nn (by omega);simp only[Value.slice.injEq]at e;obtain⟨rfl,-,rfl⟩:=e;generalize stops[nn]=f at hc0 hb1 hb2;have hin : ¬ ((nn:Int)<0):=by omega
      have hwi:IntKind.i64.wrap ((nn:Int)+1)=(nn:Int)+1:=by rw[IntKind.wrap_i64] <;> omega
      go_wp2_with fail;refine(zyy _ f 60 ⟨hb1,hb2⟩ (by omega) (by omega)).mono ?_;rintro e w' ⟨rfl,rfl⟩;have hpl:=zkg f (60:Int).toNat (by decide);generalize zbo f (60:Int).toNat=pk at hpl ⊢;have hpl:pk<60:=hpl;have hdt:=HST'.out.dev;go_wp2_with fail;refine(zxn hdt.1 hdt.2.1 pk (by omega)).mono ?_;rintro e r3 ⟨rfl,d3,hmf,huf,hsf,hkf⟩;have HST3:=hid (HST'.out.fuse hmf huf hsf hkf);have HKP3:=hid (zyl HKP.out (hkf.mono fun j hj _ e=>hj (e▸HST'.out.ug)) HU'.out);have HFU:=hid (show t=5->d3.fuse = -1 from fun h=>by omega);go_upto_region 24 with fail;obtain⟨n2,hn2⟩ : ∃ n2:Nat,n2=nn+1:=⟨_,rfl⟩
      rw[show ((nn:Int)+1)=(n2:Int) by omega];have HN2:=hid (show n2<=stops.length by omega);clear hmf huf hsf hkf hdt hc0 hin p1 p2 hpl hb1 hb2 hgs hgl hn2 hwi HST' HKP HNN;all_goals
       have hW:=HW4.out;obtain⟨gl,ol,cl,lv,hvs,hgl,hSl,c0,c1,c2,hs0,hs1,hev⟩:=(HRD4.out.kept (HKP3.out.mono fun j hj _ h=>by
        rcases hj with hj|hj
        ·omega
        ·have:=(HBW4.out j hj).1;omega)).atAd i HLT.out
       simp only[Value.slice.injEq,true_and]at hvs;obtain⟨rfl,rfl⟩:=hvs;obtain⟨ea,ec,rfl,hec1,hec2⟩:=hev.slice;have hle:=Nat.le_trans hec1 hec2;have hi:=HLT.out;obtain⟨N3,hN3⟩ : ∃ N3,N3=4000+140000*i+22000*t:=⟨_,rfl⟩
       rw[<-hN3]at HST3;have hkne:=HMK.out.2 i HLT.out;have hap:(appB bs mk[i].1 (-1) mk[i].2.1 mk[i].2.2).2.2=stB mk (i+1):=by
        rcases HBS.out with h|h
        ·rw[h,zr3 mk i HLT.out];rfl
        ·rw[h,zr3 mk i HLT.out];exact zys (zr4 HMK.out.1 i) _ _ _ _ hkne
       obtain⟨x,hx⟩ : ∃ x,x=mk[i]:=⟨_,rfl⟩
       rw[<-hx]at c0 c1 c2 hs0 hs1 hev hle hap;have HEV:=hid hev;have hle4:=zfe mk (i+1);have hle3:=zfe mk i;have hbl:bs.length<=4:=by
        rcases HBS.out with h|h
        ·rw[h];omega
        ·rw[h];omega
       have HAP:=hid hap;have HAL:=hid (show (appB bs x.1 (-1) x.2.1 x.2.2).2.2.length<=4 by rw[hap];omega);have HLE:=hid hle;have hUl:=HST3.out.low;have HGL:=hid (show ¬ U' gl from fun h=>by
        rcases HU'.out gl h with h|h
        ·rcases hSl with h1|h1
         ·omega
         ·have:=(HBW4.out gl h1).1;omega
        ·have:gl<w4.heap.size:=by
          rcases hSl with h1|h1
          ·omega
          ·have:=(HBW4.out gl h1).2;omega
         omega)
       have HWW:=hid (show w1.heap.size<=r3.heap.size from HST3.out.dev.1.ex.size);have HUL:=hid (show ∀ j,U' j->j<r3.heap.size from fun j hj=>(hUl j hj).2);have HN3:=hid (show N3<=900000/\n'<=200 from⟨by omega,by omega⟩);have hN3':N3<=900000:=by omega
       clear hap hle hec1 hec2 hUl hW hx hkne;have hxd:Ext r3 r3.drew:=(Ext.refl _).drew;have HXD:=hid hxd;have HC:=hid (show r3.cell? ⟨gl,ol+i*3,none⟩=some (.string x.1)/\r3.cell? ⟨gl,ol+i*3+1,none⟩=some (.string x.2.1)/\r3.cell? ⟨gl,ol+i*3+2,none⟩=some (.slice ea x.2.2.length ec) from⟨c0,c1,c2⟩);have HCX:=hid (fun (w':World) (hk:Keep (fun j=>j=gl) r3 w')=>show w'.cell? ⟨gl,ol+i*3,none⟩=some (.string x.1)/\w'.cell? ⟨gl,ol+i*3+1,none⟩=some (.string x.2.1)/\w'.cell? ⟨gl,ol+i*3+2,none⟩=some (.slice ea x.2.2.length ec) from⟨hk.cell c0 rfl,hk.cell c1 rfl,hk.cell c2 rfl⟩);have hin : ¬ ((i:Int)<0):=by omega
       have hin2:(i:Int)<(mk.length:Int):=by omega
       refine zr (fun w'=>w'.cell? ⟨gl,ol+i*3,none⟩=some (.string x.1)/\w'.cell? ⟨gl,ol+i*3+1,none⟩=some (.string x.2.1)/\w'.cell? ⟨gl,ol+i*3+2,none⟩=some (.slice ea x.2.2.length ec)) [] (by kernel_rfl) (HCX.out _ (hxd.keep _)) (fun hS=>?_);clear c0 c1 c2;(refine za 0 rfl ?_;(try simp only[Act.put,tq0,tq1,tq2,tq3,tq4,tq5]));(refine za 1 rfl ?_;(try simp only[Act.put,tq0,tq1,tq2,tq3,tq4,tq5]));(refine za 2 rfl ?_;(try simp only[Act.put,tq0,tq1,tq2,tq3,tq4,tq5]));(refine za 3 rfl ?_;(try simp only[Act.put,tq0,tq1,tq2,tq3,tq4,tq5]));(refine za 4 rfl ?_;(try simp only[Act.put,tq0,tq1,tq2,tq3,tq4,tq5]));(refine za 5 rfl ?_;(try simp only[Act.put,tq0,tq1,tq2,tq3,tq4,tq5]));(refine za 6 rfl ?_;(try simp only[Act.put,tq0,tq1,tq2,tq3,tq4,tq5]));(refine za 7 rfl ?_;(try simp only[Act.put,tq0,tq1,tq2,tq3,tq4,tq5]));(refine za 8 rfl ?_;(try simp only[Act.put,tq0,tq1,tq2,tq3,tq4,tq5]));(refine za 9 rfl ?_;(try simp only[Act.put,tq0,tq1,tq2,tq3,tq4,tq5]));(refine za 10 rfl ?_;(try simp only[Act.put,tq0,tq1,tq2,tq3,tq4,tq5]));(refine za 11 rfl ?_;(try simp only[Act.put,tq0,tq1,tq2,tq3,tq4,tq5]));(refine za 12 rfl ?_;(try simp only[Act.put,tq0,tq1,tq2,tq3,tq4,tq5]));(refine za 13 rfl ?_;(try simp only[Act.put,tq0,tq1,tq2,tq3,tq4,tq5]));(refine za 14 rfl ?_;(try simp only[Act.put,tq0,tq1,tq2,tq3,tq4,tq5]));(refine za 15 rfl ?_;(try simp only[Act.put,tq0,tq1,tq2,tq3,tq4,tq5]));refine ze (rs:=[16,20]) (by kernel_rfl) (by decide) (AllT.consS rfl (fun K hK=>?_) (AllT.consS rfl (fun K hK=>?_) AllT.nil));go_simp;refine(zgk (HST3.out.ext HXD.out) (by omega) (by have:=HN3.out;omega) (by omega) x.1 hs0 (-1) (by omega) x.2.1 hs1 _ _ x.2.2 (HEV.out.ext HXD.out) HLE.out HAL.out).mono ?_;rintro e w3 hend;obtain⟨a,er,rfl,hres⟩:=hend.res;obtain⟨a5,a6,a7,a9⟩:=a;dsimp only[encA];have HRES:=hid hres;have HK3:=hid (show Keep (fun j=>¬ U' j) r3 w3 from (HXD.out.keep _).trans (by obtain⟨_,_,_,_,h,_⟩:=hres;exact h));clear hend hres;(refine hK.out _ _ (HCX.out _ (HK3.out.mono fun j hj _=>by rw[hj];exact HGL.out)) (fun hS=>?_);clear hK K);(refine za 17 rfl ?_;(try simp only[Act.put,tq0,tq1,tq2,tq3,tq4,tq5]));(refine za 18 rfl ?_;(try simp only[Act.put,tq0,tq1,tq2,tq3,tq4,tq5]));(refine za 19 rfl ?_;(try simp only[Act.put,tq0,tq1,tq2,tq3,tq4,tq5]));refine ze (rs:=[20]) (by kernel_rfl) (by decide) (AllT.consS rfl (fun K hK=>?_) AllT.nil);go_simp;have hx4:Ext w3 (w3.alloc (.cells #[.int .i64 0,.int .i64 0,.int .i64 0,.bool false] 41)):=(Ext.refl _).alloc _;have hn4:=heap_alloc_new w3 (.cells #[.int .i64 0,.int .i64 0,.int .i64 0,.bool false] 41);obtain⟨ga,hga⟩ : ∃ ga,ga=w3.heap.size:=⟨_,rfl⟩
       rw[<-hga]at hn4 ⊢;generalize (w3.alloc (.cells #[.int .i64 0,.int .i64 0,.int .i64 0,.bool false] 41))=V3 at hx4 hn4 ⊢;have HX4:=hid hx4;have HROW:=hid hn4;have HPAST:=hid (show ∀ V4,Keep (fun j=>j≠ga) V3 V4->StRes w1 r3 qx g ρ' N3 d3 n' bs U' (appB bs x.1 (-1) x.2.1 x.2.2) er V4 from fun V4 hk=>StRes.past HXD.out HRES.out ((HX4.out.keep _).trans hk) (by have:=HK3.out.size;omega) (fun j hj e=>by have:=HUL.out j hj;have:=HK3.out.size;omega) (.inr (by omega)) HWW.out);have HGE:=hid (show ga=w3.heap.size from hga);clear hx4 hn4 hga;(refine hK.out _ _ (HCX.out _ ((HK3.out.mono fun j hj _=>by rw[hj];exact HGL.out).trans (HX4.out.keep _))) (fun hS=>?_);clear hK K);have HNG:=hid (show gl≠ga by have:=HK3.out.size;have:=HGE.out;omega);clear HGE HRES HK3 HX4;rotate_left
       go_simp;have hx2:Ext r3 ((r3.alloc (.cells #[.int .i64 0,.int .i64 0,.int .i64 0,.bool false] 41)).drew):=((Ext.refl _).alloc _).drew;have hn2:((r3.alloc (.cells #[.int .i64 0,.int .i64 0,.int .i64 0,.bool false] 41)).drew).heap[r3.heap.size]? = _:=heap_alloc_new r3 (.cells #[.int .i64 0,.int .i64 0,.int .i64 0,.bool false] 41);have hz2:((r3.alloc (.cells #[.int .i64 0,.int .i64 0,.int .i64 0,.bool false] 41)).drew).heap.size=r3.heap.size+1:=by simp
       obtain⟨ga,hga⟩ : ∃ ga,ga=r3.heap.size:=⟨_,rfl⟩
       rw[<-hga]at hn2 hz2 ⊢;generalize ((r3.alloc (.cells #[.int .i64 0,.int .i64 0,.int .i64 0,.bool false] 41)).drew)=V2 at hx2 hn2 hz2 ⊢;have HX2D:=hid hx2;have HN2:=hid hn2;have HGA:=hid (show r3.heap.size<=ga/\ga<V2.heap.size from⟨by omega,by omega⟩);clear hx2 hn2 hz2 hga;(refine hK.out _ _ (HCX.out _ (HX2D.out.keep _)) (fun hS=>?_);clear hK K);refine ze (rs:=[16]) (by kernel_rfl) (by decide) (AllT.consS rfl (fun K hK=>?_) AllT.nil);go_simp;refine(zgk (HST3.out.ext HX2D.out) (by omega) (by have:=HN3.out;omega) (by omega) x.1 hs0 (-1) (by omega) x.2.1 hs1 _ _ x.2.2 (HEV.out.ext HX2D.out) HLE.out HAL.out).mono ?_;rintro e V3 hend;obtain⟨a,er,rfl,hres⟩:=hend.res;obtain⟨a5,a6,a7,a9⟩:=a;dsimp only[encA];have HK3:=hid (show Keep (fun j=>¬ U' j) V2 V3 by obtain⟨_,_,_,_,h,_⟩:=hres;exact h);have HROW:=hid (show V3.heap[ga]? = _ from (HK3.out.block ga (fun h=>by have:=HUL.out ga h;have:=HGA.out;omega) HGA.out.2).trans HN2.out);have HPAST:=hid (show ∀ V4,Keep (fun j=>j≠ga) V3 V4->StRes w1 r3 qx g ρ' N3 d3 n' bs U' (appB bs x.1 (-1) x.2.1 x.2.2) er V4 from fun V4 hk=>StRes.past HX2D.out hres hk HGA.out.1 (fun j hj e=>by have:=HUL.out j hj;have:=HGA.out;omega) (.inl HGA.out.2) HWW.out);clear hend hres;(refine hK.out _ _ (HCX.out _ ((HX2D.out.keep _).trans (HK3.out.mono fun j hj _=>by rw[hj];exact HGL.out))) (fun hS=>?_);clear hK K);have HNG:=hid (show gl≠ga by have:=HGA.out;omega);clear HK3 HN2 HGA HX2D;(refine za 17 rfl ?_;(try simp only[Act.put,tq0,tq1,tq2,tq3,tq4,tq5]));(refine za 18 rfl ?_;(try simp only[Act.put,tq0,tq1,tq2,tq3,tq4,tq5]));(refine za 19 rfl ?_;(try simp only[Act.put,tq0,tq1,tq2,tq3,tq4,tq5]));all_goals
        have f0:=zg HROW.out 0;have f1:=zg HROW.out 1;have f2:=zg HROW.out 2;have f3:=zg HROW.out 3;have g0:V3.cell? ⟨ga,0,none⟩=some (.int .i64 0):=(cr 0 HROW.out)
        have g1:V3.cell? ⟨ga,1,none⟩=some (.int .i64 0):=(cr 1 HROW.out)
        have g2':V3.cell? ⟨ga,2,none⟩=some (.int .i64 0):=(cr 2 HROW.out)
        have g3:V3.cell? ⟨ga,3,none⟩=some (.bool false):=(cr 3 HROW.out)
        refine ze (rs:=[21]) (by kernel_rfl) (by decide) (AllT.consS rfl (fun K hK=>?_) AllT.nil);go_simp;have hk4:Keep (fun j=>j≠ga) V3 ((((V3.setCell ⟨ga,0,none⟩ (.int .i64 a5)).setCell ⟨ga,1,none⟩ (.int .i64 a6)).setCell ⟨ga,2,none⟩ (.int .i64 a7)).setCell ⟨ga,3,none⟩ (.bool a9)):=(((((Keep.refl _ _).setCell (p:=⟨ga,0,none⟩) (fun h=>h rfl) _).setCell (p:=⟨ga,1,none⟩) (fun h=>h rfl) _).setCell (p:=⟨ga,2,none⟩) (fun h=>h rfl) _).setCell (p:=⟨ga,3,none⟩) (fun h=>h rfl) _)
        generalize ((((V3.setCell ⟨ga,0,none⟩ (.int .i64 a5)).setCell ⟨ga,1,none⟩ (.int .i64 a6)).setCell ⟨ga,2,none⟩ (.int .i64 a7)).setCell ⟨ga,3,none⟩ (.bool a9))=V4 at hk4 ⊢;have HK4:=hid hk4;clear f0 f1 f2 f3 g0 g1 g2' g3 hk4;(refine hK.out _ _ (⟨HK4.out.cell hS.1 HNG.out,HK4.out.cell hS.2.1 HNG.out,HK4.out.cell hS.2.2 HNG.out⟩) (fun hS=>?_);clear hK K);refine ze (rs:=[22]) (by kernel_rfl) (by decide) (AllT.consS rfl (fun K hK=>?_) AllT.nil);go_simp;(refine hK.out _ _ (hS) (fun hS=>?_);clear hK K);refine zn (by kernel_rfl) (NoPanic.normal ?_) _;obtain⟨ρ4',d4',U4',hu4',hk4',hr4',h4'⟩:=HPAST.out V4 HK4.out;have HR4':=hid hr4';have HKV:=hid (zyl HKP3.out hk4' HU'.out);have HUV:=hid (show ∀ j,U4' j->(w1.heap.size<=j/\j<w2.heap.size)\/w4.heap.size<=j from fun j hj=>by
         rcases hu4' j hj with h|h
         ·exact HU'.out j h
         ·have:=HKP3.out.size;omega)
        clear hu4' hk4' hr4' hS HK4 HPAST HROW HNG;rcases h4' with⟨rfl,hf4,n4',hn4',hst4⟩|⟨rfl,hnf,hdn⟩
        ·have her:=ztl bs x.1 (-1) x.2.1 x.2.2;rw[HAP.out]at hst4;have HST5:=hid hst4;obtain⟨m3,hm3⟩ : ∃ m3,m3=(appB bs x.1 (-1) x.2.1 x.2.2).2.1:=⟨_,rfl⟩
         rw[<-hm3]at her ⊢;have he1:((m3:Int) == 2)=false:=by simp;omega
         have he2 : ¬ ((m3:Int)=2):=by omega
         clear hst4 hm3 her;go_wp2_with fail;refine(zyw HST5.out).mono ?_;rintro e V5 ⟨rfl,d5,hst5,hc5,hk5⟩;have HST6:=hid hst5;have HC6:=hid hc5;have HKV5:=hid (zyl HKV.out (hk5.mono fun j hj _ e=>hj (e▸HST5.out.ug)) HUV.out);clear hst5 hc5 hk5;have hwi:IntKind.i64.wrap ((i:Int)+1)=(i:Int)+1:=by rw[IntKind.wrap_i64] <;> omega
         go_wp2_with fail;go_roundw;case measure=>simp[intOf];omega
         case rel=>exact⟨i+1,n2,qx,by omega,rfl,rfl,HN2.out,by go_num,_,d5,n4',U4',HST6.out.more (by omega),HC6.out,by omega,HUV.out,HKV5.out⟩
        ·have HDN:=hid hdn;have ht5 : ¬ t=5:=fun h=>hnf (HFU.out h);have hHW:=HW4.out;have hm4d:=hdn.hm;have HCR:=hid (zrd hm4d (by omega) hdn.len (fun s=>FsImg (n'+1) s (filB bs)\/FsImg (n'+1) s (filB (stB mk (i+1)))) (fun s hs=>by have h:=HDN.out.img s hs;rw[HAP.out]at h;exact h) (fun k=>k<W.heap.size) _ picks (HPK.out.ext (zyn HX4.out HKV.out hHW.1)) (fun j hj _=>hm4d.old j (by omega)));clear hm4d hdn hnf HDN;go_wp2_with fail;refine HCR.out.mono ?_;rintro e r5 ⟨rfl,d6,hm6,hc6,hs6,hl6,hi6,hk6⟩;have HKV6:=hid (zyl HKV.out (hk6.mono fun j hj _=>Classical.byContradiction fun hc=>hj (HR4'.out j hc)) HUV.out);obtain⟨bs',hbs',himg⟩ : ∃ bs',(bs'=stB mk i\/bs'=stB mk (i+1))/\FsImg (n'+1) (curF d6) (filB bs'):=by
          rcases hi6 with h|h
          ·exact⟨bs,HBS.out,h⟩
          ·exact⟨_,.inr rfl,h⟩
         have hbl':bs'.length<=4:=by
          rcases hbs' with h|h
          ·rw[h];omega
          ·rw[h];omega
         have hbg':GoodB bs':=by
          rcases hbs' with h|h
          ·rw[h];exact zr4 HMK.out.1 _
          ·rw[h];exact zr4 HMK.out.1 _
         have HOP:=hid (zhe hm6 (by omega) hc6 hs6 hl6 (n:=n'+1) (by omega) bs' hbg' hbl' himg);have HBS':=hid hbs';clear hm6 hc6 hs6 hl6 hi6 hk6 hbs' himg hbl' hbg' HCR;go_wp2_with fail;refine HOP.out.mono ?_;rintro e r6 ⟨qu,ρ6,d7,n7,U7,rfl,hn7,hst7,hc7,hr7,hk7,hu7⟩;have HST7:=hid hst7;have HC7:=hid hc7;have HKV7:=hid (zyl HKV6.out (hk7.mono fun j hj _=>Classical.byContradiction fun hc=>hj (HR4'.out j hc)) HUV.out);have HUV7:=hid (show ∀ j,U7 j->(w1.heap.size<=j/\j<w2.heap.size)\/w4.heap.size<=j from fun j hj=>by
          rcases hu7 j hj with h|h
          ·exact HUV.out j (HR4'.out j h)
          ·have:=HKV6.out.size;omega)
         clear hst7 hc7 hr7 hk7 hu7 HOP;have hwt:IntKind.i64.wrap ((t:Int)+1)=(t:Int)+1:=by rw[IntKind.wrap_i64] <;> omega
         go_wp2_with fail;go_roundw;case measure=>simp[intOf];omega
         case rel=>exact⟨t+1,n2,qu,bs',by omega,rfl,rfl,HN2.out,by go_num,HBS'.out,ρ6,d7,n7,U7,HST7.out.more (by omega),HC7.out,by omega,HUV7.out,HKV7.out⟩
    ·have hie:i=mk.length:=by omega
     subst hie;obtain⟨ρ',d',n',U',hst,hcl,hn',hU',hkp⟩:=HS.out;have HST':=hid hst;have HKP:=hid hkp;have hW:=HW4.out;clear hst hcl hU' hkp HS;go_wp2_with fail;refine(TLog HST'.out (by have:=zfe mk mk.length;omega)).mono ?_;rintro e w5 ⟨v5,S5,rfl,ho5,hs5,hx5⟩;obtain⟨a5,c5,rfl⟩:=ho5.slice;have HX5:=hid hx5;have HFE:=hid (show RdS rEnt w5 (fun j=>S5 j\/(Value.slice a5 (ixB (stB mk mk.length)).all.length c5).ownBlock=some j) (.slice a5 (ixB (stB mk mk.length)).all.length c5) (ixB (stB mk mk.length)).all from RdS.weak zds (fun h=>zdr h) ho5.rd);have hml:(vt mk (mk.length+1)).length=mk.length+1:=kq _ _;obtain⟨gw,ow,cw,u1,e1,-,-,c1,hu1⟩:=((HO4.out.rd.kept (HKP.out.mono fun j hj _ h=>by have:=(HB4.out j hj).1;omega)).ext HX5.out).atEs mk.length (by rw[hml];omega);simp only[Value.slice.injEq,hml,true_and]at e1;obtain⟨rfl,rfl⟩:=e1;rw[zio mk (mk.length+1) mk.length (by omega)]at hu1;obtain⟨b1,k1,rfl,-,-⟩:=hu1.slice;have HU1:=hid hu1;obtain⟨m5,hm5⟩ : ∃ m5,m5=(ixB (stB mk mk.length)).all.length:=⟨_,rfl⟩
     rw[<-hm5]at HFE HU1 c1 ⊢;have hw3:IntKind.i64.wrap (((mk.length+1:Nat):Int)-1)=(mk.length:Int):=by rw[IntKind.wrap_i64] <;> omega
     have hw4:IntKind.i64.wrap ((mk.length:Int)+1-1)=(mk.length:Int):=by rw[IntKind.wrap_i64] <;> omega
     have hi1 : ¬ ((mk.length:Int)<0):=by omega
     have hi2:(mk.length:Int)<((mk.length+1:Nat):Int):=by omega
     have hi5:(mk.length:Int)<(mk.length:Int)+1:=by omega
     clear ho5 hs5 hx5 hu1 hml hm5;go_wp2_with fail;refine(zcw w5 _ _ _ _ _ _ HFE.out HU1.out).mono ?_;rintro e w6 ⟨rfl,hx6⟩;rw[decide_eq_true rfl];go_wp2_with fail;go_ret;exact⟨rfl,((zyn HX4.out HKP.out hW.1).trans HX5.out).trans hx6⟩
end
end Go.Proofs.YtnadlnmclameiaaGreatDoor
