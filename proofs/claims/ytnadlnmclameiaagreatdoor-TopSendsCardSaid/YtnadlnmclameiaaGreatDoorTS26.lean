/- part 26 -/
import Derived.Test.YtnadlnmclameiaaGreatDoorTS25
import Derived.Laws.CopyOwn
set_option maxRecDepth 100000
set_option maxHeartbeats 8000000
set_option linter.all false
namespace Go.Proofs.YtnadlnmclameiaaGreatDoor
section
open Go.RowKit Go.Maps
theorem zlt (w:World) (g:Nat) (cs:Array Value):Keep (fun j=>j≠g) w (w.setRow g cs):=⟨rfl,rfl,rfl,by simp[World.setRow],fun k hk _=>setRow_other w g k cs hk⟩
theorem zpy {w:World} (base gb c off:Nat) (old D:List UInt8) (sa:Option Addr) (sc:Nat) (hoff:off<512) (hold:old.length=512) (hD:0<D.length) (n:Nat) (hn:D.length=n) (hown:OwnB w base (.slice (some ⟨gb,0,none⟩) 512 c) old) (hsrc:RdB w (.slice sa n sc) D) (ty:TypeId) :
  ∃ w',(Builtin.copy_ #[33,33] ty #[.slice (some ⟨gb,off,none⟩) (512-off) (c-off),.slice sa n sc]).run Tryz.prog w = .ok (.int .i64 ((min (512-off) n:Nat):Int)) w'/\
   OwnB w' base (.slice (some ⟨gb,0,none⟩) 512 c) (old.take off++D.take (min (512-off) n)++old.drop (off+min (512-off) n))/\Keep (fun j=>j≠gb) w w'/\w'.heap.size=w.heap.size:=by
 subst hn;obtain⟨hl,hh⟩:=hown;rcases hh with⟨e,_⟩|⟨g',cap',cur,e,hb,hg,hnc,hcm,hcs,htake⟩
 ·cases e
 simp only[Value.slice.injEq,Option.some.injEq,Addr.mk.injEq,and_true,true_and]at e;obtain⟨rfl,-,rfl⟩:=e;obtain⟨a0,cap0,e0,-,-,-,hc⟩:=hsrc;simp only[Value.slice.injEq,true_and]at e0;obtain⟨rfl,rfl⟩:=e0;obtain⟨gs,os,rfl,hgs,hcells⟩:=hc hD;rw[hold]at hnc;have hkl:(bvs (D.take (min (512-off) D.length))).length=min (512-off) D.length:=by rw[zd4,List.length_take];omega
 have hsz:cur.size=c:=by rw[hcs];omega
 have hrun:=run_copy_row (P:=Tryz.prog) w 33 33 ty 5 gb off (512-off) (c-off) ⟨gs,os,none⟩ D.length sc cur 5 (bvs (D.take (min (512-off) D.length))) Tryz.underlying33 qe hg (by rw[hkl];exact Nat.min_comm _ _) (fun j v hj=>by
  have hjl:=(List.getElem?_eq_some_iff.1 hj).1;rw[hkl]at hjl;rw[show (⟨gs,os,none⟩:Addr).add j=⟨gs,os+j,none⟩ from by unfold Addr.add;split <;> simp_all,hcells j (by omega),<-hj,<-zd3,List.getElem?_take,if_pos hjl]) (by rw[hkl,hsz];omega) (qh _)
 have hgo:goInt (bvs (D.take (min (512-off) D.length))).length = .int .i64 ((min (512-off) D.length:Nat):Int):=by rw[hkl];rfl
 rw[hgo]at hrun;refine⟨_,hrun,?_,zlt _ _ _,by simp[World.setRow]⟩;have hnl:(old.take off++D.take (min (512-off) D.length)++old.drop (off+min (512-off) D.length)).length=512:=by
  simp only[List.length_append,List.length_take,List.length_drop];omega
 refine⟨by rw[zd4,Nat.mul_one],.inr ⟨gb,c,_,by rw[hnl],hb,setRow_heap w gb _ _ 5 _ hg,by rw[hnl];exact hnc,hcm,?_,?_⟩⟩
 ·simp only[List.size_toArray,List.length_append,List.length_take,List.length_drop,Array.length_toList,hkl,hsz];omega
 ·rw[hold]at htake;rw[hnl];have e1:cur.toList.take off=bvs (old.take off):=by rw[<-zd3,<-htake,List.take_take,Nat.min_eq_left (by omega)]
  have e2:(cur.toList.drop (off+min (512-off) D.length)).take (512-(off+min (512-off) D.length))=bvs (old.drop (off+min (512-off) D.length)):=by
   rw[<-zk0,<-htake,List.drop_take]
  rw[hkl,zbu,zbu,<-e1,<-e2,List.toList_toArray,List.append_assoc];have l1:(cur.toList.take off).length=off:=by rw[List.length_take,Array.length_toList,hsz];omega
  generalize cur.toList.take off=X at l1 ⊢;generalize hY:bvs (D.take (min (512-off) D.length))=Y at hkl ⊢;generalize cur.toList.drop (off+min (512-off) D.length)=Z;rw[List.take_append,List.take_append,List.take_of_length_le (by omega:X.length<=512*1),List.take_of_length_le (by omega:Y.length<=512*1-X.length),l1,hkl,show 512*1-off-min (512-off) D.length=512-(off+min (512-off) D.length) by omega,List.append_assoc]
theorem zqb {w:World}{base:Nat}{v:Value}{l:List UInt8} (h:OwnB w base v l) (hl:0<l.length) : ∃ g c,v = .slice (some ⟨g,0,none⟩) l.length c/\base<=g/\g<w.heap.size:=by
 obtain⟨h1,h2⟩:=h;rcases h2 with⟨-,e⟩|⟨g,cap,cur,e,hb,hg,-⟩
 ·rw[e]at hl;exact absurd hl (Nat.lt_irrefl _)
 ·exact⟨g,cap,e,hb,(blt hg)⟩
theorem zw3 {w:World}{S:Nat->Prop}{v:Value}{xs:List Run} (h:RdS rRn w S v xs):RdR w v xs/\∀ r∈xs,zhf r:=by
 obtain⟨v',gs,e,rfl,h1,h2,h3⟩:=h;obtain rfl:=List.singleton_inj.1 e;have key : ∀ gs:List (List Value × Run),(∀ p∈gs,rRn.rd w S p.1 p.2)->cellsOf gs=yc (gs.map (·.2))/\∀ r∈gs.map (·.2),zhf r:=by
  intro gs;induction gs with
  | nil=>intro _;exact⟨rfl,by simp⟩
  | cons p gs ih=>
   intro h;obtain⟨i1,i2⟩:=ih fun q hq=>h q (by simp[hq]);obtain⟨c1,c2,e1,⟨e2,b1⟩,⟨e3,b2⟩⟩:=h p (by simp);refine⟨?_,?_⟩
   ·show p.1++cellsOf gs=[.int .i64 p.2.1,.int .i64 p.2.2]++yc (gs.map (·.2));rw[i1,e1,e2,e3];rfl
   ·intro r hr;rcases List.mem_cons.1 hr with rfl|hr
    ·exact⟨b1,b2⟩
    ·exact i2 r hr
 obtain⟨k1,k2⟩:=key gs h3;refine⟨?_,k2⟩;unfold RdR;rw[List.length_map,<-k1];exact h1
def zfg (q n:Nat):List Run:=if n=0 then [] else [((q:Int),(n:Int))]
theorem zkw (q n:Nat):locs q++zm (zfg q n)=locs (q+n):=by
 unfold zfg;by_cases h:n=0
 ·subst h;simp[zm]
 ·rw[if_neg h,<-zsz]
theorem zsy (q n:Nat):(if n=0 then [] else [(q,n)]).map runI=zfg q n:=by
 unfold zfg;by_cases h:n=0
 ·rw[if_pos h,if_pos h];rfl
 ·rw[if_neg h,if_neg h];rfl
theorem zqs {s n:Nat} (h:s+n<=8192):extF (s:Int) (n:Int) (zfg (nbN s) (nbN (s+n)-nbN s))=0/\ql (s:Int) (n:Int)=(((nbN (s+n)-nbN s:Nat):Int),0):=by
 have hm:nbN s<=nbN (s+n):=by unfold nbN;omega
 have h16:=zah h;have hneed:ql (s:Int) (n:Int)=(((nbN (s+n)-nbN s:Nat):Int),0):=by
  unfold ql;rw[if_neg (by omega),if_neg (by omega),show (s:Int)+(n:Int)=((s+n:Nat):Int) by omega,nb_nbN,nb_nbN];congr 1;omega
 refine⟨?_,hneed⟩;unfold extF;rw[hneed];dsimp only;rw[if_neg (by simp)];refine if_pos ?_;unfold zfg;by_cases h0:nbN (s+n)-nbN s=0
 ·rw[if_pos h0,h0];rfl
 ·rw[if_neg h0];unfold xx zci xx;simp only[Bool.and_eq_true,Bool.not_eq_true',decide_eq_false_iff_not,decide_eq_true_eq];omega
end
section
open Go.RowKit Go.Maps
section
variable {w W W':World}{φ:Nat->Option FRol}{gf gl:Nat}{C C':Int->Bk}{k:FsS}{gc ga gm:Nat}{gt:Option Nat}{gn:Nat}{qn:Option Nat}{lv:Value}
theorem FsP.allocTo (h:FsP W φ gf gl C k gc ga gm gt gn qn lv) {T':Nat->Prop}{nw ls:Nat} (hT : ∀ j,T' j->(φ j=none\/φ j=some .alloc)/\j<W'.heap.size) (hal:MapAt T' W' ga (qw nw) (qw ls)) (hk:Keep (fun j=>φ j≠none/\φ j≠some .alloc) W W') :
  FsP W' (rel φ T' .alloc) gf gl C { k with now:=nw,lst:=ls } gc ga gm gt gn qn lv:=by
 have hT1 : ∀ j,T' j->φ j=none\/φ j=some .alloc:=fun j hj=>(hT j hj).1;have old : ∀ {j:Nat}{r:FRol},φ j=some r->rel φ T' .alloc j=some r:=fun {j r} hj=>zb0 hT1 hj;have kb : ∀ {j:Nat}{r:FRol},φ j=some r->r≠ .alloc->W'.heap[j]? = W.heap[j]?:=fun {j r} hj hr=>hk.block j ⟨by rw[hj];simp,by rw[hj];simpa using hr⟩ (h.lt j (by rw[hj];simp));exact {
  head:=(kb h.rf (by simp)).trans h.head
  rf:=old h.rf
  cache:=(h.cache.keep (hk.mono fun j hj _=>⟨by rw[hj];simp,by rw[hj];simp⟩)).mono fun j hj _=>old hj
  alloc:=MapAt.mono' hal fun j hj=>qv hj
  files:=by
   obtain⟨es,clock,h1,h2⟩:=h.files;exact⟨es,clock,(kb h.rm (by simp)).trans h1,h2⟩
  rm:=old h.rm
  node:=fun s hs=>by
   obtain⟨h1,h2,h3⟩:=h.node s hs;exact⟨h1.keep (S:=fun j=>φ j=some .node) (hk.mono fun j hj _=>⟨by rw[hj];simp,by rw[hj];simp⟩) h2 h3,old h2,fun j hj=>old (h3 j hj)⟩
  laid:=Rd.carry0 h.laid hk.size fun _ j hj hl=>kb (h.rl j hj) (by simp)
  rl:=fun j hj=>old (h.rl j hj)
  lt:=fun j hj=>by
   rcases y7 hj with hj|hj
   ·exact(hT j hj).2
   ·exact Nat.lt_of_lt_of_le (h.lt j hj) hk.size }
theorem FsP.nodeTo (h:FsP W φ gf gl C k gc ga gm gt gn qn lv) {qn':Option Nat}{s s':Nat} (hs:k.sz=some s) (hT : ∀ j,qn'=some j->(φ j=none\/φ j=some .node)/\j<W'.heap.size) (hn:NodeAt W' gn qn' (s':Int) (locs (nbN s'))) (hk:Keep (fun j=>φ j≠none/\φ j≠some .node) W W') :
  FsP W' (rel φ (fun j=>qn'=some j) .node) gf gl C { k with sz:=some s' } gc ga gm gt gn qn' lv:=by
 have hT1 : ∀ j,qn'=some j->φ j=none\/φ j=some .node:=fun j hj=>(hT j hj).1;have old : ∀ {j:Nat}{r:FRol},φ j=some r->rel φ (fun j=>qn'=some j) .node j=some r:=fun {j r} hj=>zb0 hT1 hj;have kb : ∀ {j:Nat}{r:FRol},φ j=some r->r≠ .node->W'.heap[j]? = W.heap[j]?:=fun {j r} hj hr=>hk.block j ⟨by rw[hj];simp,by rw[hj];simpa using hr⟩ (h.lt j (by rw[hj];simp));exact {
  head:=(kb h.rf (by simp)).trans h.head
  rf:=old h.rf
  cache:=(h.cache.keep (hk.mono fun j hj _=>⟨by rw[hj];simp,by rw[hj];simp⟩)).mono fun j hj _=>old hj
  alloc:=MapAt.mono' (h.alloc.keep (hk.mono fun j hj _=>⟨by rw[hj];simp,by rw[hj];simp⟩)) fun j hj=>old hj
  files:=by
   have hf:=h.files;rw[hs]at hf;obtain⟨es,clock,h1,h2⟩:=hf;exact⟨es,clock,(kb h.rm (by simp)).trans h1,h2⟩
  rm:=old h.rm
  node:=fun s0 hs0=>by
   cases hs0;obtain⟨h1,h2,h3⟩:=h.node s hs;exact⟨hn,old h2,fun j hj=>qv hj⟩
  laid:=Rd.carry0 h.laid hk.size fun _ j hj hl=>kb (h.rl j hj) (by simp)
  rl:=fun j hj=>old (h.rl j hj)
  lt:=fun j hj=>by
   rcases y7 hj with hj|hj
   ·exact(hT j hj).2
   ·exact Nat.lt_of_lt_of_le (h.lt j hj) hk.size }
end
theorem zj5 {φ:Nat->Option FRol}{r:FRol}:rel φ (fun j=>φ j=some r) r=φ:=funext fun j=>by
 by_cases e:φ j=some r
 ·rw[qv e,e]
 ·exact qm e
section
variable {w W:World}{g:Nat}{ρ:Nat->Option DRol}{N:Nat}{d:Dv}{gl n:Nat}{C:Int->Bk}{P:(Int->Bk)->Prop}{φ:Nat->Option FRol}{gf:Nat}{gc ga gm:Nat}{gt:Option Nat}{gn:Nat}{qn:Option Nat}{lv:Value}
theorem zwm (b D:List UInt8) (lst:Nat) (dir:Option Nat) (h:FsB w W g ρ N d gl n C P φ gf ⟨some b.length,nbN b.length,lst,nbN b.length,dir⟩ gc ga gm gt gn qn lv) (hN:N<=999900000) (hls:lst<=nbN b.length) (hsz:b.length+D.length<=8192)
  (hC : ∀ i:Nat,i<nbN b.length->pre b b.length i <+: C (36+(i:Int))/\(C (36+(i:Int))).length=512)
  (hP : ∀ (i:Nat) (X:Bk) s s',i<16->P s->(∀ j:Int,j≠36+i->s' j=s j)->s' (36+i)=X->pre b b.length i <+: X->P s')
  (va:Option Addr) (vc:Nat) (hv:RdB W (.slice va D.length vc) D) (hvb : ∀ j,(Value.slice va D.length vc).ownBlock=some j->¬ FsT ρ gl φ j/\j<W.heap.size) :
  Calls Tryz.prog 54 #[.pointer (some ⟨gf,0,none⟩),.string seg0,.slice va D.length vc] W fun e W'=>∃ ρ' d' φ',FStep W W' ρ ρ' gl φ φ'/\
   ((e = .returned (.int .i64 0)/\(d.fuse = -1->d'.fuse = -1)/\∃ qn' C',FsB w W' g ρ' (N+20000) d' gl n C' P φ' gf ⟨some (b.length+D.length),nbN (b.length+D.length),lst,nbN (b.length+D.length),dir⟩ gc ga gm gt gn qn' lv/\
     (∀ i:Nat,i<nbN (b.length+D.length)->pre (b++D) (b.length+D.length) i <+: C' (36+(i:Int))/\(C' (36+(i:Int))).length=512)/\∀ j:Int,j<36->C' j=C j)\/
    (e = .returned (.int .i64 2)/\d.fuse≠ -1/\DownAt w W' g ρ' (N+20000) d' 64 (fun s=>LogS 64 s n s/\P s))):=by
 have H0:=hid h;have HC:=hid hC;have HP:=hid hP;have HV:=hid hv;have HVB:=hid hvb;obtain⟨s,hs⟩ : ∃ s,s=b.length:=⟨_,rfl⟩
 rw[<-hs]at H0 HC hls hsz;have HS:=hid hs;obtain⟨hE,hNd⟩:=zqs (s:=s) (n:=D.length) hsz;have HE:=hid hE;have HND:=hid hNd;have h16:=zah hsz;have hmono:nbN s<=nbN (s+D.length):=by unfold nbN;omega
 have hdc:=hv.len;clear h hC hP hv hvb hE hNd hs hdc;rw[<-HS.out];go_enter Tryz.func54,Tryz.ntmps54;go_wp2_with fail;refine(ze8 H0.out.at H0.out.mem rfl).mono ?_;rintro e w1 ⟨rfl,rfl⟩;have hn0:=(H0.out.mem.node s rfl)
 have HN0:=hid hn0;clear hn0;go_wp2_with fail;refine(zcd W gn qn s D.length _ HN0.out.1 (by omega) (by omega)).mono ?_;rintro e w1 ⟨rfl,hb⟩;have hx1:=Ext.of hb;rw[HND.out];have HB1:=hid (H0.out.ext hx1);have HX1:=hid hx1;have hc2:=(cr 2 HB1.out.mem.head)
 clear hb hx1;go_wp2_with fail;have hfr:=zis (nbN s) (by omega) lst (by omega) hls;refine(zna _ w1 ga _ _ HB1.out.mem.alloc (nbN (s+D.length)-nbN s) (by rw[hfr,List.length_range'];omega)).mono ?_;rintro e w2 ⟨v2,rs,rfl,hca,hfl,hrs,hal,hk2⟩;rw[hfr]at hfl hal;have hrr:=zpx hca (by omega) hfl;subst hrr;rw[zsy]at hrs;rw[zjy (nbN s) (by omega) _ (by omega) (by omega),show nbN s+(nbN (s+D.length)-nbN s)=nbN (s+D.length) by omega]at hal;have hm2:=HB1.out.mem.allocTo (T':=fun j=>φ j=some .alloc) (fun j hj=>⟨.inr hj,Nat.lt_of_lt_of_le (HB1.out.mem.lt j (by rw[hj];simp)) hk2.size⟩) hal (hk2.mono fun j hj _=>hj.2);rw[zj5]at hm2;have hput2:=HB1.out.put.kept (hk2.mono fun j hj _ e=>by
  obtain⟨q1,q2,q3⟩:=HB1.out.dis j (by rw[e];simp);rcases hj with (hj|hj)|hj
  ·exact hj q1
  ·omega
  ·exact q2 hj)
 have HB2:=hid (show FsB w w2 g ρ N d gl n C P φ gf ⟨some s,nbN (s+D.length),lst,nbN s,dir⟩ gc ga gm gt gn qn lv from⟨hput2,hm2,HB1.out.dis⟩);have HST2:=hid (FStep.xt HX1.out (FStep.mk (RolNew.refl ρ w1) (FNew.refl φ w1) (hk2.mono fun j hj _ e=>hj (.inr (.inr (by rw[e];simp)))):FStep w1 w2 ρ ρ gl φ φ));obtain⟨hrd2,hok2⟩:=zw3 hrs.rdT;have HRD2:=hid hrd2;have HOK2:=hid hok2;obtain⟨a2,c2,rfl⟩:=hrs.slice;clear hca hfl hrs hal hk2 hm2 hput2 hrd2 hok2 hfr hc2;go_wp2_with fail;refine(zaf w2 gn qn s _ (HB2.out.mem.node s rfl).1).mono ?_;rintro e w3 ⟨rfl,rfl⟩;go_wp2_with fail;refine(zar w2 gn qn s D.length _ (HB2.out.mem.node s rfl).1 (zdb s (by omega)) (by omega) _ _ HRD2.out HOK2.out).mono ?_;rintro e w3 he;obtain⟨rfl,qn3,hn3,hk3,hq3⟩:=ExtEnd.ok he HE.out;rw[zkw,show nbN s+(nbN (s+D.length)-nbN s)=nbN (s+D.length) by omega,show (s:Int)+(D.length:Int)=((s+D.length:Nat):Int) by omega]at hn3;have hnn:=HB2.out.mem.node s rfl;have hm3:=HB2.out.mem.nodeTo (W':=w3) (qn':=qn3) (s':=s+D.length) rfl (fun j hj=>(show (φ j=none\/φ j=some .node)/\j<w3.heap.size by
  have hjl:j<w3.heap.size:=by obtain⟨vr,-,-,-,-,h5,-⟩:=hn3;exact h5 j hj
  refine⟨?_,hjl⟩;rcases hq3 with rfl|hq3
  ·exact .inr (hnn.2.2 j hj)
  ·left;by_cases e:φ j=none
   ·exact e
   ·have:=HB2.out.mem.lt j e;have:=hq3 j hj;omega)) hn3 (hk3.mono fun j hj _ e=>by subst e;exact hj.2 hnn.2.1)
 have hφ3 : ∀ j,rel φ (fun j=>qn3=some j) .node j≠none->φ j≠none\/w2.heap.size<=j:=fun j hj=>by
  rcases y7 hj with hj|hj
  ·rcases hq3 with rfl|hq3
   ·exact .inl (by rw[hnn.2.2 j hj];simp)
   ·exact .inr (hq3 j hj)
  ·exact .inl hj
 have hgn:φ gn≠none:=by rw[hnn.2.1];simp
 have hput3:=HB2.out.put.kept (hk3.mono fun j hj _ e=>by
  subst e;obtain⟨q1,q2,q3⟩:=HB2.out.dis _ hgn;rcases hj with (hj|hj)|hj
  ·exact hj q1
  ·omega
  ·exact q2 hj)
 have hb3:FsB w w3 g ρ N d gl n C P (rel φ (fun j=>qn3=some j) .node) gf ⟨some (s+D.length),nbN (s+D.length),lst,nbN s,dir⟩ gc ga gm gt gn qn3 lv:=⟨hput3,hm3,fun j hj=>by
  rcases hφ3 j hj with h|h
  ·exact HB2.out.dis j h
  ·obtain⟨q1,q2,q3⟩:=HB2.out.late h;exact⟨q1,q3,by have:=HB2.out.put.hm.ex.size;omega⟩⟩
 have hst3:FStep W w3 ρ ρ gl φ (rel φ (fun j=>qn3=some j) .node):=HST2.out.trans ⟨RolNew.refl _ _,hφ3,hk3.mono fun j hj _ e=>by subst e;exact hj (.inr (.inr hgn))⟩;generalize rel φ (fun j=>qn3=some j) .node=φ3 at hb3 hst3;have HB3:=hid hb3;have HST3:=hid hst3;clear hn3 hk3 hq3 he hnn hm3 hφ3 hput3 hb3 hst3 hgn;go_wp2_with fail;go_loopw [2,11] (fun u2 u11 wr=>∃ (t:Nat) (ρi:Nat->Option DRol) (di:Dv) (φi:Nat->Option FRol) (Ci:Int->Bk) (da:Option Addr) (dc:Nat),u2 = .slice da (D.length-t) dc/\u11 = .int .i64 ((s+t:Nat):Int)/\t<=D.length/\
   FsB w wr g ρi (N+2*t) di gl n Ci P φi gf ⟨some (s+D.length),nbN (s+D.length),lst,nbN (s+t),dir⟩ gc ga gm gt gn qn3 lv/\FStep W wr ρ ρi gl φ φi/\RdB wr (.slice da (D.length-t) dc) (D.drop t)/\(∀ j,(Value.slice da (D.length-t) dc).ownBlock=some j->¬ FsT ρ gl φ j/\j<W.heap.size)/\
   (∀ i:Nat,i<nbN (s+t)->pre (b++D) (s+t) i <+: Ci (36+(i:Int))/\(Ci (36+(i:Int))).length=512)/\(∀ j:Int,j<36->Ci j=C j)/\(d.fuse = -1->di.fuse = -1)) (fun u2 _ _=>match u2 with | .slice _ n _=>n|_=>0)
 case atStart=>
  refine⟨0,ρ,d,φ3,C,va,vc,rfl,rfl,Nat.zero_le _,HB3.out,HST3.out,?_,HVB.out,fun i hi=>?_,fun _ _=>rfl,id⟩
  ·have hk:=HST3.out.keep;exact Rd.carry0 HV.out hk.size fun _ j hj hl=>hk.block j (HVB.out j hj).1 hl
  ·obtain⟨q1,q2⟩:=HC.out i hi;exact⟨by rw[Nat.add_zero,zmx (Nat.le_of_eq HS.out)];exact q1,q2⟩
 case round=>
  obtain⟨t,ρi,di,φi,Ci,da,dc,rfl,rfl,ht,hb,hst,hrd,hown,hpre,hdir,hfu⟩:=hrel;have HB:=hid hb;have HST:=hid hst;have HRD:=hid hrd;have HOWN:=hid hown;have HPRE:=hid hpre;have HDIR:=hid hdir;have HFU:=hid hfu;have hdlen:=hrd.len;clear hb hst hrd hown hpre hdir hfu HB2 HST2 HN0 HRD2 HOK2 HB3 HST3 HB1 HX1;by_cases hlt:t<D.length
  ·obtain⟨m,hm⟩ : ∃ m,m=s+t:=⟨_,rfl⟩
   obtain⟨nn,hnn⟩ : ∃ nn,nn=m / 512:=⟨_,rfl⟩
   obtain⟨ff,hff⟩ : ∃ ff,ff=m % 512:=⟨_,rfl⟩
   have hf5:ff<512:=by omega
   have hm16:nn<16:=by omega
   have hmq:nn<nbN (s+D.length):=by unfold nbN;omega
   have i1:(0:Int)<((D.length-t:Nat):Int):=by omega
   have hw16:IntKind.i64.wrap (16+(nn:Int))=16+(nn:Int):=by rw[IntKind.wrap_i64] <;> omega
   have hmz:=zn9;have hn16:=zah (n:=s+t) (by omega);rw[<-hm]at hn16;rw[<-hm];have HM:=hid hm;have HNN:=hid hnn;have HFF:=hid hff;clear hm hnn hff;go_wp2_with fail;refine(zgy wr gn qn3 _ (m:Int) (nn:Int) _ (HB.out.mem.node _ rfl).1 (zdb _ (by omega)) (by omega) (by have:=HM.out;omega) (by rw[show ((m:Int) / 512).toNat=nn by have:=HNN.out;omega];exact zkn _ _ hmq)).mono ?_;rintro e w1 ⟨rfl,hbx⟩;have hx1:=Ext.of hbx;rw[show (m:Int) % 512=(ff:Int) by have:=HFF.out;omega];have HB1:=hid (HB.out.ext hx1);have HST1:=hid (HST.out.ext hx1);have HX1:=hid hx1;have c0:=(cr 0 HB1.out.mem.head)
   have c1:=(cr 1 HB1.out.mem.head)
   have hgl:=HB1.out.mem.glt;have n1 : ¬ gf=w1.heap.size:=by omega
   have n2 : ¬ w1.heap.size=gf:=by omega
   clear hbx hx1;obtain⟨w2,hw2⟩ : ∃ w2,w2=w1.alloc (.cells (bvs zb).toArray 5):=⟨_,rfl⟩
   have hx2:Ext w1 w2:=by rw[hw2];exact(Ext.refl _).alloc _
   have hz2:w2.heap[w1.heap.size]? = some (.cells (bvs zb).toArray 5 (0,0)):=by rw[hw2];exact heap_alloc_new _ _
   have hzo:OwnB w2 w1.heap.size (.slice (some ⟨w1.heap.size,0,none⟩) 512 512) zb:=⟨by simp,.inr ⟨w1.heap.size,512,_,by rw[zb_len],Nat.le_refl _,hz2,by rw[zb_len];omega,by simp[maxLen],by simp[zb_len],by simpa using List.take_of_length_le (by simp)⟩⟩
   have HZO:=hid hzo;have HX2:=hid hx2;have HW2:=hid hw2;clear hz2 hzo hx2 hw2;obtain⟨old,hold⟩ : ∃ old:Bk,old=if ff=0 then zb else Ci (36+(nn:Int)):=⟨_,rfl⟩
   by_cases h0:ff=0;have i2:decide (0<ff)=false:=by rw[decide_eq_false_iff_not];omega
   rw[if_pos h0]at hold;have HOLD:=hid hold;have H00:=hid h0;clear hold h0;go_upto_region 19 with (fail)
   obtain⟨gb,hgb⟩ : ∃ gb,gb=w1.heap.size:=⟨_,rfl⟩
   obtain⟨cb,hcb⟩ : ∃ cb,cb=512:=⟨_,rfl⟩
   have hob:OwnB w2 w1.heap.size (.slice (some ⟨gb,0,none⟩) 512 cb) old:=by rw[hgb,hcb,HOLD.out];exact HZO.out
   rw[<-HW2.out,<-hgb];have hcb':(512:Nat)<=cb:=by omega
   have e3:(Value.slice (some ⟨gb,0,none⟩) 512 512)=(Value.slice (some ⟨gb,0,none⟩) 512 cb):=by rw[hcb]
   rw[e3];have HOB:=hid hob;have HB3:=hid (HB1.out.ext HX2.out);have HST3:=hid (HST1.out.ext HX2.out);have HOP:=hid (show old.length=512/\(m % 512≠0->pre (b++D) m (m / 512) <+: old) from⟨by rw[HOLD.out];exact zb_len,fun e=>absurd (by have:=HFF.out;have:=H00.out;omega) e⟩);have HX3:=hid (HX1.out.trans HX2.out);have HZ3:=hid (show w1.heap.size<=w2.heap.size from HX2.out.size);obtain⟨w3,hw3⟩ : ∃ w3,w3=w2:=⟨_,rfl⟩
   rw[<-hw3]at HOB HB3 HST3 HX3 HZ3 ⊢;have HSTX:=hid (show FStep wr w3 ρi ρi gl φi φi from⟨RolNew.refl _ _,FNew.refl _ _,HX3.out.keep _⟩);have HGB:=hid (show w1.heap.size<=gb by omega);clear hob hcb hgb e3 HOLD HZO HX2 HW2 HX3 c0 c1 hw3 n1 n2 hmz;rotate_left
   have i2:(0:Int)<(ff:Int):=by omega
   rw[if_neg h0]at hold;have HOLD:=hid hold;clear hold;go_wp2_with fail;rw[<-HW2.out];have hqq:nn<nbN m:=by have h1:=HNN.out;have h2:=HFF.out;unfold nbN;omega
   have hpr:=HPRE.out nn (by rw[<-HM.out];exact hqq);have HBX:=HB1.out.ext HX2.out;refine(zt5 HBX.mem nn (by rw[<-HM.out];exact hqq) hpr.2).mono ?_;rintro e w3 ⟨v3,rfl,ho3,hm3,hv3,hk3⟩;obtain⟨gb,cb,rfl,hgb,hgb2⟩:=zqb ho3 (by rw[hpr.2];omega);rw[hpr.2]at ho3 hv3 ⊢;have hcb':(512:Nat)<=cb:=by
    obtain⟨-,hh⟩:=ho3;rcases hh with⟨e,_⟩|⟨_,cap',_,e,_,_,hnc,_⟩
    ·cases e
    ·simp only[Value.slice.injEq,true_and]at e;rw[hpr.2]at hnc;omega
   have hput3:=HBX.put.kept (hk3.mono fun j hj _ e=>by
    obtain⟨q1,q2,q3⟩:=HBX.dis j (by rw[e];simp);rcases hj with (hj|hj)|hj
    ·exact hj q1
    ·omega
    ·exact q2 hj)
   have HB3:=hid (show FsB w w3 g ρi (N+2*t) di gl n Ci P φi gf ⟨some (s+D.length),nbN (s+D.length),lst,nbN (s+t),dir⟩ gc ga gm gt gn qn3 lv from⟨hput3,hm3,HBX.dis⟩);have hst23:FStep w2 w3 ρi ρi gl φi φi:=⟨RolNew.refl _ _,FNew.refl _ _,hk3.mono fun j hj _ e=>hj (.inr (.inr (by rw[e];simp)))⟩
   have HST3:=hid ((HST1.out.ext HX2.out).trans hst23);have HOB:=hid (show OwnB w3 w1.heap.size (.slice (some ⟨gb,0,none⟩) 512 cb) old from j4 (by rw[HOLD.out];exact ho3) HX2.out.size);have HOP:=hid (show old.length=512/\(m % 512≠0->pre (b++D) m (m / 512) <+: old) from⟨by rw[HOLD.out];exact hpr.2,fun _=>by have h1:=hpr.1;rw[HOLD.out,HNN.out]at*;rw[HM.out];rw[<-HM.out]at*;exact h1⟩);have HZ3:=hid (show w1.heap.size<=w3.heap.size from Nat.le_trans HX2.out.size hk3.size);have HSTX:=hid (show FStep wr w3 ρi ρi gl φi φi from FStep.xt (HX1.out.trans HX2.out) hst23);have HGB:=hid (show w1.heap.size<=gb from Nat.le_trans HX2.out.size hgb);clear ho3 hm3 hv3 hk3 hgb hpr HBX hput3 hst23 HOLD HZO HX2 HW2 c0 c1 n1 n2 hmz hqq;go_upto_region 19 with (fail)
   all_goals
    have hrd3:RdB w3 (.slice da (D.length-t) dc) (D.drop t):=Rd.carry0 HRD.out HSTX.out.keep.size fun _ j hj hl=>HSTX.out.keep.block j (HST.out.free (HOWN.out j hj).1 (HOWN.out j hj).2) hl;have hDl:(D.drop t).length=D.length-t:=List.length_drop ..;have HRD3:=hid hrd3;have HDL:=hid hDl;have e0:=(cr 0 HB3.out.mem.head)
    have e1:=(cr 1 HB3.out.mem.head)
    have hgfw:=HB3.out.mem.glt;have hgbn : ∀ j,FsT ρi gl φi j->j≠gb:=fun j hj e=>by
     subst e;exact HB1.out.at.late HGB.out hj
    have hgbgf:gf≠gb:=hgbn gf (.inr (.inr (by rw[HB3.out.mem.rf];simp)));have HGBN:=hid hgbn;obtain⟨w4,hcopy,ho4,hk4,hs4⟩:=zpy w1.heap.size gb cb ff old (D.drop t) da dc hf5 HOP.out.1 (by rw[HDL.out];omega) (D.length-t) HDL.out HOB.out HRD3.out 3;obtain⟨kk,hkk⟩ : ∃ kk,kk=min (512-ff) (D.length-t):=⟨_,rfl⟩
    rw[<-hkk]at ho4 hcopy;have HO4:=hid ho4;have HK4:=hid hk4;have HS4:=hid hs4;have HKK:=hid hkk;have hcf : ¬ cb=ff:=by omega
    have e0:=yk hk4 e0 hgbgf;have e1:=yk hk4 e1 hgbgf;clear ho4 hk4 hs4 hkk hrd3 hDl hgbn i2;go_wp2_with fail;try(rw[hcopy];go_wp2_with fail)
    have hgw:w.heap.size<=gb:=by
     have h1:=HGB.out;have h2:=HB1.out.put.hm.ex.size;omega
    have HB4:=hid (HB3.out.keep (HK4.out.mono fun j hj hl=>by
     rcases hj with hj|hj
     ·exact HGBN.out j hj
     ·omega))
    have hk4r:Keep (fun j=>¬ FsT ρi gl φi j) wr w4:=(show Keep (fun j=>¬ FsT ρi gl φi j/\j<wr.heap.size) wr w4 from (HSTX.out.keep.mono fun j hj _=>hj.1).trans (HK4.out.mono fun j hj _ e=>by
     have h1:=HGB.out;have h2:=HX1.out.size;omega)).mono fun j hj hl=>⟨hj,hl⟩
    have HST4:=hid (show FStep wr w4 ρi ρi gl φi φi from⟨RolNew.refl _ _,FNew.refl _ _,hk4r⟩);clear hk4r;have hbl:(b++D).length=s+D.length:=by rw[List.length_append,HS.out]
    have hdm:(b++D).drop m=D.drop t:=by rw[HM.out,HS.out,List.drop_append,List.drop_of_length_le (by omega),List.nil_append];congr 1;omega
    have hpp:=zvc (b:=b++D) (old:=old) (m:=m) (k:=kk) (by have:=HM.out;rw[hbl];omega) (by have h1:=HKK.out;have h2:=HFF.out;have h3:=HM.out;rw[hbl];omega) HOP.out.1 HOP.out.2;rw[hdm,<-HFF.out,<-HNN.out]at hpp;generalize hX:old.take ff++(D.drop t).take kk++old.drop (ff+kk)=X at hpp HO4;have HPX:=hid hpp;have hkk0:0<kk/\kk<=D.length-t/\kk<=512-ff:=by have:=HKK.out;omega
    clear hpp hX hdm hbl hcopy;refine(FSet HB4.out (by omega) nn (by have h1:=HNN.out;have h2:=HM.out;show nn<=nbN (s+t);unfold nbN;omega) hm16 (some ⟨gb,0,none⟩) cb X (zk HO4.out) (fun j hj hT=>?_) HPX.out.2 (fun st st' h1 h2 h3=>?_)).mono ?_
    ·simp only[Value.ownBlock,Option.map_some,Option.some.injEq]at hj;exact HGBN.out j hT hj.symm
    ·refine HP.out nn X st st' hm16 h1 h2 h3 (List.IsPrefix.trans ?_ HPX.out.1);rw[<-HS.out,<-zmx (d:=D) (Nat.le_of_eq HS.out)];exact zsk _ _ (by have:=HM.out;omega)
    rintro e w5 ⟨ρ5,d5,φ5,hst5,⟨rfl,hb5,hf5'⟩|⟨rfl,hnf,hdn,hm5,hr5⟩⟩
    ·have hqe:max (nbN (s+t)) (nn+1)=nbN (s+(t+kk)):=by
      have h1:=HNN.out;have h2:=HM.out;have h3:=HFF.out;unfold nbN;omega
     have hb5':FsB w w5 g ρ5 (N+2*t+2) d5 gl n (fun j=>if j=36+(nn:Int) then X else Ci j) P φ5 gf ⟨some (s+D.length),nbN (s+D.length),lst,nbN (s+(t+kk)),dir⟩ gc ga gm gt gn qn3 lv:=by rw[<-hqe];exact hb5
     have HB5:=hid hb5';have HST45:=hid (HST4.out.trans hst5);have HST5:=hid (HST.out.trans HST45.out);have HF5:=hid hf5';clear hst5 hb5 hf5' hqe hb5';go_wp2_with fail;have hsum:IntKind.i64.wrap ((m:Int)+(kk:Int))=(m:Int)+(kk:Int):=by rw[IntKind.wrap_i64] <;> (have:=HM.out;omega)
     have hk1:(kk:Int)<=((D.length-t:Nat):Int):=by omega
     have hq5:nbN (s+(t+kk))=nn+1:=by
      have h1:=HNN.out;have h2:=HM.out;have h3:=HFF.out;unfold nbN;omega
     have HRD5:=hid (show RdB w5 (.slice da (D.length-t) dc) (D.drop t) from Rd.carry0 HRD.out HST45.out.keep.size fun _ j hj hl=>HST45.out.keep.block j (HST.out.free (HOWN.out j hj).1 (HOWN.out j hj).2) hl);have HQ5:=hid hq5;clear hq5;go_quiet (fail);go_wp2_with fail;have hxq:Ext w5 (w5.drewN nq):=(Ext.refl w5).drewN nq;have hdl:(D.drop t).length=D.length-t:=HDL.out;have hrd:=HRD5.out.ext hxq;rw[<-hdl]at hrd;have hcut:=hrd.drop kk (by rw[hdl];omega);rw[List.drop_drop,hdl]at hcut;have e1:(if dc=kk then da else Option.map (fun x=>x.add kk) da)=yq da dc kk 1:=by unfold yq;simp only[Nat.mul_one]
     have e2:D.length-t-kk=D.length-(t+kk):=by omega
     rw[e1,e2];rw[e2]at hcut;refine⟨⟨t+kk,ρ5,d5,φ5,fun j=>if j=36+(nn:Int) then X else Ci j,yq da dc kk 1,dc-kk,rfl,?_,by omega,{ HB5.out.ext hxq with put:=(HB5.out.ext hxq).put.more (by omega) },HST5.out.ext hxq,hcut,fun j hj=>HOWN.out j ?_,fun i hi=>?_,fun j hj=>?_,fun h=>HF5.out (HFU.out h)⟩,?_⟩
     ·rw[show ((s+(t+kk):Nat):Int)=(m:Int)+(kk:Int) by have:=HM.out;omega]
     ·rw[<-hj];exact(cutAt_block (n':=D.length-t) (m':=dc)).symm
     ·rw[HQ5.out]at hi;have h1:=HNN.out;have h2:=HM.out;have e3:s+(t+kk)=m+kk:=by omega
      dsimp only;by_cases e:i=nn
      ·subst e;rw[if_pos rfl,e3];exact HPX.out
      ·rw[if_neg (by omega)];obtain⟨q1,q2⟩:=HPRE.out i (by unfold nbN;omega);refine⟨?_,q2⟩;rw[e3,<-zsl (m:=s+t) (by omega) (by omega)];exact q1
     ·dsimp only;rw[if_neg (by omega)];exact HDIR.out j hj
     ·dsimp only;omega
    ·have HST5:=hid (HST.out.trans (HST4.out.trans hst5));have HDN:=hid hdn;have HM5:=hid hm5;have HNF:=hid hnf;have HR5:=hid (fun j hj=>(hr5 j hj).1);clear hst5 hdn hm5 hnf hr5;go_wp2_with fail;refine(zf0 HM5.out).mono ?_;rintro e w6 ⟨rfl,hk6⟩;have hgf5:φ5 gf=some .fs:=HM5.out.rf;have HK6:=hid hk6;clear hk6;go_wp2_with fail;go_ret;have hgw6:w.heap.size<=gf:=(HB.out.dis gf (by rw[HB.out.mem.rf];simp)).2.2;have hρ5:ρ5 gf=none:=HR5.out gf (by rw[hgf5];simp);refine⟨ρ5,d5,φ5,HST5.out.trans ⟨RolNew.refl _ _,FNew.refl _ _,HK6.out.mono fun j hj hl e=>hj (.inr (.inr (by rw[e,hgf5];simp)))⟩,.inr ⟨rfl,fun h=>HNF.out (HFU.out h),{ HDN.out with hm:=(HDN.out.hm.kept (HK6.out.mono fun j hj hl e=>?_)).mono (by omega) }⟩⟩;subst e;rcases hj with hj|hj
     ·exact hj hρ5
     ·omega
  ·have hte:D.length-t=0:=by omega
   have i1 : ¬ (0:Int)<((D.length-t:Nat):Int):=by omega
   have htD:t=D.length:=by omega
   subst htD;go_wp2_with fail;go_ret;exact⟨ρi,di,φi,HST.out,.inl ⟨rfl,HFU.out,qn3,Ci,{ HB.out with put:=HB.out.put.more (by omega) },HPRE.out,HDIR.out⟩⟩
end
end
end Go.Proofs.YtnadlnmclameiaaGreatDoor
