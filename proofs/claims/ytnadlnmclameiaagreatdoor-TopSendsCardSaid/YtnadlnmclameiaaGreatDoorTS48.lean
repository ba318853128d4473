/- part 48 -/
import Derived.Test.YtnadlnmclameiaaGreatDoorTS47
set_option maxRecDepth 100000
set_option maxHeartbeats 8000000
set_option linter.all false
namespace Go.Proofs.YtnadlnmclameiaaGreatDoor
section
open Go.RowKit Go.Maps
section
variable {w W W':World}{q g:Nat}{ρ:Nat->Option DRol}{N:Nat}{d:Dv}{n:Nat}{bs:List Bat}{U:Nat->Prop}
def StEnd (w W:World) (q g:Nat) (ρ:Nat->Option DRol) (N:Nat) (d:Dv) (n:Nat) (bs:List Bat) (U:Nat->Prop) (z:Apd × (Nat × List Bat)) (e:Ending) (W':World):Prop:=
 ∃ ρ' d' U',(∀ j,U' j->U j\/W.heap.size<=j)/\Keep (fun j=>¬ U j) W W'/\(∀ j,ρ' j≠none->U' j)/\
  ((e = .returned (.tuple #[encA z.1,.int .i64 ((z.2.1:Nat):Int)])/\(d.fuse = -1->d'.fuse = -1)/\∃ n',n'<=n+1/\StAt w W' q g ρ' (N+21000) d' n' z.2.2 U')\/
   (e = .returned (.tuple #[encA app0,.int .i64 2])/\d.fuse≠ -1/\DownAt w W' g ρ' (N+21000) d' 64 fun s=>FsImg (n+1) s (filB bs)\/FsImg (n+1) s (filB z.2.2)))
theorem zgk (h:StAt w W q g ρ N d n bs U) (hN:N<=998000000) (hn:n<=99999999) (hl:bs.length<=4) (s:ByteArray) (hs:s.size<=9223372036854775807) (m:Int) (hm : -9223372036854775808<=m/\m<=9223372036854775807) (k:ByteArray) (hk:k.size<=9223372036854775807)
  (S:Nat->Prop) (lv:Value) (l:List Ev) (hv:RdS rE W S lv l) (hle:l.length<=9223372036854775807) (hl':(appB bs s m k l).2.2.length<=4) :
  Calls Tryz.prog 11 #[.pointer (some ⟨q,0,none⟩),.string s,.int .i64 m,.string k,lv] W (StEnd w W q g ρ N d n bs U (appB bs s m k l)):=by
 obtain⟨va,vc,rfl,-,-⟩:=hv.slice;have HV:=hid hv;have H:=hid h;have HI:=hid (zm3 hv);have hb:=h.low;obtain⟨gl,C,φ,gf,gc,ga,gm,gt,gn,qn,lvv,gs,fv,zv,Sd,gx,T,hp⟩:=h;have HP:=hid hp;have hqW:q<W.heap.size:=(blt hp.head)
 have HQW:=hid hqW;have hixl:=zat bs;have hstr:=hp.good.reach.str s;obtain⟨Y,hY⟩ : ∃ Y,Y=appB bs s m k l:=⟨_,rfl⟩
 rw[<-hY]at hl' ⊢;have HY:=hid hY;obtain⟨t,ht⟩ : ∃ t,t=tryF (ixB bs) s m k l:=⟨_,rfl⟩
 have HTR:=hid (fun (W2:World) (hx:Ext W W2)=>zv1 W2 T gx (ixB bs) (hp.ix.ext hx) (by omega) s hs m hm k hk S (.slice va l.length vc) l (hv.ext hx) hle (by omega));rw[<-ht]at HTR;obtain⟨⟨a1,a2,a3,a4⟩,⟨b1,b2,b3,b4⟩,er⟩:=t;have HT:=hid ht;clear hv hp hb hqW hixl hstr hY ht;go_enter Tryz.func11,Tryz.ntmps11;go_wp2_with fail;have r0:=heap_alloc_new W (.cells #[.int .i64 0,.int .i64 0,.int .i64 0,.bool false] 41);have hx0:Ext W (W.alloc (.cells #[.int .i64 0,.int .i64 0,.int .i64 0,.bool false] 41)):=(Ext.refl W).alloc _;have hz0:(W.alloc (.cells #[.int .i64 0,.int .i64 0,.int .i64 0,.bool false] 41)).heap.size=W.heap.size+1:=by simp
 obtain⟨gr,hgr⟩ : ∃ gr,gr=W.heap.size:=⟨_,rfl⟩
 rw[<-hgr]at r0 hz0 ⊢;generalize (W.alloc (.cells #[.int .i64 0,.int .i64 0,.int .i64 0,.bool false] 41))=w0 at r0 hx0 hz0 ⊢;have R0:=hid r0;have HX0:=hid hx0;have HZ0:=hid hz0;have HGR:=hid hgr;clear r0 hx0 hz0 hgr;refine(zv4 (H.out.ext HX0.out)).mono ?_;rintro e w1 ⟨rfl,rfl⟩;have c2:w0.cell? ⟨q,2,none⟩=some (.pointer (some ⟨gx,0,none⟩)):=Ext.cellS HX0.out ((cr 2 HP.out.head));go_wp2_with fail;refine(HTR.out w0 HX0.out).mono ?_;rintro e w1 ⟨ev,rfl,hev,hx1⟩;have hev:=RdEs.read hev;obtain⟨ea,ec,rfl,-,-⟩:=hev.slice;have HEV:=hid hev;have HX1:=hid hx1;clear hev hx1 c2;dsimp only at HEV ⊢;go_upto_region 5 with fail;have hra0:((w1.alloc (.cells #[.int .i64 a1,.int .i64 a2,.int .i64 a3,.bool a4] 41)).alloc (.cells #[.string b1,.string b2,.int .i64 b3,.slice ea b4.length ec] 68)).heap[w1.heap.size]? = some (.cells #[.int .i64 a1,.int .i64 a2,.int .i64 a3,.bool a4] 41 (0,0)):=
  (Below.heap_alloc _ _ _ (by simp)).trans (heap_alloc_new _ _)
 have hrb0:((w1.alloc (.cells #[.int .i64 a1,.int .i64 a2,.int .i64 a3,.bool a4] 41)).alloc (.cells #[.string b1,.string b2,.int .i64 b3,.slice ea b4.length ec] 68)).heap[w1.heap.size+1]? = some (.cells #[.string b1,.string b2,.int .i64 b3,.slice ea b4.length ec] 68 (0,0)):=by
  have:=heap_alloc_new (w1.alloc (.cells #[.int .i64 a1,.int .i64 a2,.int .i64 a3,.bool a4] 41)) (.cells #[.string b1,.string b2,.int .i64 b3,.slice ea b4.length ec] 68);rw[World.size_alloc]at this;exact this
 have hx2:Ext w1 ((w1.alloc (.cells #[.int .i64 a1,.int .i64 a2,.int .i64 a3,.bool a4] 41)).alloc (.cells #[.string b1,.string b2,.int .i64 b3,.slice ea b4.length ec] 68)):=((Ext.refl w1).alloc _).alloc _;have hz2:((w1.alloc (.cells #[.int .i64 a1,.int .i64 a2,.int .i64 a3,.bool a4] 41)).alloc (.cells #[.string b1,.string b2,.int .i64 b3,.slice ea b4.length ec] 68)).heap.size=w1.heap.size+2:=by simp
 obtain⟨gA,hgA⟩ : ∃ gA,gA=w1.heap.size:=⟨_,rfl⟩
 rw[<-hgA]at hra0 hrb0 hz2 ⊢;generalize ((w1.alloc (.cells #[.int .i64 a1,.int .i64 a2,.int .i64 a3,.bool a4] 41)).alloc (.cells #[.string b1,.string b2,.int .i64 b3,.slice ea b4.length ec] 68))=w2 at hra0 hrb0 hx2 hz2 ⊢;obtain⟨gb,hgb⟩ : ∃ gb,gb=gA+1:=⟨_,rfl⟩
 rw[<-hgb]at hrb0 ⊢;have RA:=hid hra0;have RB:=hid hrb0;have HX2:=hid (HX1.out.trans hx2);have HXV:=hid hx2;have HSZ:=hid (show gr=W.heap.size/\w0.heap.size=gr+1/\w0.heap.size<=gA/\gb=gA+1/\w2.heap.size=gA+2 from⟨HGR.out,HZ0.out,by rw[hgA];exact HX1.out.size,hgb,hz2⟩);have HXW:=hid (HX0.out.trans HX2.out);have rr:w2.heap[gr]? = some (.cells #[.int .i64 0,.int .i64 0,.int .i64 0,.bool false] 41 (0,0)):=yy HX2.out R0.out;have RR:=hid rr;clear hra0 hrb0 hx2 hz2 hgb hgA;have hEnd : ∀ (z:Apd) (er':Nat) (w':World),Ext W w'->Y=(z,(er',bs))->StEnd w W q g ρ N d n bs U Y (.returned (.tuple #[encA z,.int .i64 ((er':Nat):Int)])) w':=by
  intro z er' w' hx hz;rw[hz];exact⟨ρ,d,U,fun j hj=>.inl hj,hx.keep _,H.out.dev.2.2.2.2.1,.inl ⟨rfl,fun h=>h,n,by omega,(H.out.ext hx).more (by omega)⟩⟩
 have HEND:=hid hEnd;clear hEnd;by_cases hA:er≠0\/a4=true
 ·have hY2:Y=((a1,a2,a3,a4),(er,bs)):=by
   rw[HY.out];unfold appB;rw[<-HT.out];exact if_pos hA
  have HY2:=hid hY2;have f0:=zg RR.out 0;have f1:=zg RR.out 1;have f2:=zg RR.out 2;have f3:=zg RR.out 3;have g0:w2.cell? ⟨gr,0,none⟩=some (.int .i64 0):=(cr 0 RR.out)
  have g1:w2.cell? ⟨gr,1,none⟩=some (.int .i64 0):=(cr 1 RR.out)
  have g2:w2.cell? ⟨gr,2,none⟩=some (.int .i64 0):=(cr 2 RR.out)
  have g3:w2.cell? ⟨gr,3,none⟩=some (.bool false):=(cr 3 RR.out)
  have k0:w2.cell? ⟨gA,0,none⟩=some (.int .i64 a1):=(cr 0 RA.out)
  have k1:w2.cell? ⟨gA,1,none⟩=some (.int .i64 a2):=(cr 1 RA.out)
  have k2:w2.cell? ⟨gA,2,none⟩=some (.int .i64 a3):=(cr 2 RA.out)
  have k3:w2.cell? ⟨gA,3,none⟩=some (.bool a4):=(cr 3 RA.out)
  by_cases her:er=0
  ·have ha4:a4=true:=by
    rcases hA with h|h
    ·exact absurd her h
    ·exact h
   subst her ha4;clear hY2 rr hA;go_wp2_with fail;have hw3:=qc (v0:=.int .i64 a1) (v1:=.int .i64 a2) (v2:=.int .i64 a3) (v3:=.bool true) RR.out;have hx3:Ext W ((((w2.setCell ⟨gr,0,none⟩ (.int .i64 a1)).setCell ⟨gr,1,none⟩ (.int .i64 a2)).setCell ⟨gr,2,none⟩ (.int .i64 a3)).setCell ⟨gr,3,none⟩ (.bool true)):=((((HXW.out.setCell (p:=⟨gr,0,none⟩) (by dsimp only;have:=HSZ.out;omega) _).setCell (p:=⟨gr,1,none⟩) (by dsimp only;have:=HSZ.out;omega) _).setCell (p:=⟨gr,2,none⟩) (by dsimp only;have:=HSZ.out;omega) _).setCell (p:=⟨gr,3,none⟩) (by dsimp only;have:=HSZ.out;omega) _)
   generalize ((((w2.setCell ⟨gr,0,none⟩ (.int .i64 a1)).setCell ⟨gr,1,none⟩ (.int .i64 a2)).setCell ⟨gr,2,none⟩ (.int .i64 a3)).setCell ⟨gr,3,none⟩ (.bool true))=w9 at hw3 hx3 ⊢;obtain⟨e0,e1,e2,e3⟩:=hw3;refine bodyPost_ret (v:=.tuple #[encA (a1,a2,a3,true),.int .i64 ((0:Nat):Int)]) (by simp[results,Tryz.results11,go_sem,encA,app0,e0,e1,e2,e3]) rfl ?_;exact HEND.out (a1,a2,a3,true) 0 w9 hx3 HY2.out
  ·have he1:((er:Int) == 0)=false:=by simp;omega
   have he2:((er:Int) != 0)=true:=by simp;omega
   have he3 : ¬ ((er:Int)=0):=by omega
   clear hY2 rr hA;go_wp2_with fail;have hw3:=qc (v0:=.int .i64 a1) (v1:=.int .i64 a2) (v2:=.int .i64 a3) (v3:=.bool a4) RR.out;have hx3:Ext W ((((w2.setCell ⟨gr,0,none⟩ (.int .i64 a1)).setCell ⟨gr,1,none⟩ (.int .i64 a2)).setCell ⟨gr,2,none⟩ (.int .i64 a3)).setCell ⟨gr,3,none⟩ (.bool a4)):=((((HXW.out.setCell (p:=⟨gr,0,none⟩) (by dsimp only;have:=HSZ.out;omega) _).setCell (p:=⟨gr,1,none⟩) (by dsimp only;have:=HSZ.out;omega) _).setCell (p:=⟨gr,2,none⟩) (by dsimp only;have:=HSZ.out;omega) _).setCell (p:=⟨gr,3,none⟩) (by dsimp only;have:=HSZ.out;omega) _)
   generalize ((((w2.setCell ⟨gr,0,none⟩ (.int .i64 a1)).setCell ⟨gr,1,none⟩ (.int .i64 a2)).setCell ⟨gr,2,none⟩ (.int .i64 a3)).setCell ⟨gr,3,none⟩ (.bool a4))=w9 at hw3 hx3 ⊢;obtain⟨e0,e1,e2,e3⟩:=hw3;refine bodyPost_ret (v:=.tuple #[encA (a1,a2,a3,a4),.int .i64 ((er:Nat):Int)]) (by simp[results,Tryz.results11,go_sem,encA,app0,e0,e1,e2,e3]) rfl ?_;exact HEND.out (a1,a2,a3,a4) er w9 hx3 HY2.out
 ·have her:er=0:=by
   by_cases e:er=0
   ·exact e
   ·exact absurd (.inl e) hA
  have ha4:a4=false:=by
   cases e:a4 with
   | false=>rfl
   | true=>exact absurd (.inr e) hA
  subst her ha4;obtain⟨e1,e2,e3⟩:=zmm (x:=ixB bs) (s:=s) (n:=m) (k:=k) (l:=l) (by rw[<-HT.out]) (by rw[<-HT.out]);rw[<-HT.out]at e1 e3;simp only[Prod.mk.injEq]at e1;obtain⟨rfl,rfl,hb3,rfl⟩:=e1;have HKN:=hid e2;have HAD:=hid e3;have hstr:=HP.out.good.reach.str b1;have hixl:=zat bs;have hb3':0<=b3/\b3<=64:=by omega
  obtain⟨pe,hpe⟩ : ∃ pe,pe=putB (b1,b2,b3,b4):=⟨_,rfl⟩
  have HPE:=hid hpe;have HB3:=hid hb3;have HPB:=hid (je w2 _ (.slice none 0 0) [] (RdB.nil _) (by simp) b1 b2 b3 _ b4 hs hk (by omega) (HEV.out.ext HXV.out));have k0:w2.cell? ⟨gb,0,none⟩=some (.string b1):=(cr 0 RB.out)
  have k1:w2.cell? ⟨gb,1,none⟩=some (.string b2):=(cr 1 RB.out)
  have k2:w2.cell? ⟨gb,2,none⟩=some (.int .i64 b3):=(cr 2 RB.out)
  have k3:w2.cell? ⟨gb,3,none⟩=some (.slice ea b4.length ec):=(cr 3 RB.out)
  have j3:w2.cell? ⟨gA,3,none⟩=some (.bool false):=(cr 3 RA.out)
  clear e2 e3 hstr hixl hb3 hA rr hpe;go_wp2_with fail;refine HPB.out.mono ?_;rintro e w3 hpb;obtain⟨v3,rfl,ho3,hn3,hx3⟩:=hpb.open;rw[<-HPE.out]at ho3 hn3 ⊢;have HX3:=hid hx3;clear hpb hx3 k0 k1 k2 k3 j3;by_cases hpz:pe.2=0
  ·have hpb:=zif (b:=(b1,b2,b3,b4)) (by rw[<-HPE.out];exact hpz);have ho3:=ho3 hpz;obtain⟨x,hx⟩ : ∃ x:Bat,x=(b1,b2,b3,b4):=⟨_,rfl⟩
   have hp1:pe.1=putBat x:=by rw[HPE.out,hx,hpb]
   rw[hp1,List.nil_append]at ho3;rw[hpz];obtain⟨va3,vc3,rfl⟩:=ho3.slice;have hY2:Y=((a1,a2,a3,false),(0,bs++[x])):=by
    rw[HY.out];unfold appB;rw[<-HT.out];dsimp only;rw[if_neg (by simp),<-HPE.out,if_neg (by simp[hpz]),hx]
   rw[<-hx]at hpb;have HPX:=hid hpb;have HO3:=hid ho3;have HX:=hid hx;have HY2:=hid hY2;have HLE:=hid (zhp hpb);have c1:w3.cell? ⟨q,1,none⟩=some (.pointer (some ⟨gs,0,none⟩)):=Ext.cellS (HXW.out.trans HX3.out) ((cr 1 HP.out.head));clear hpb ho3 hn3 hx hp1 hY2;go_wp2_with fail;have hn4:=heap_alloc_new w3 (.cells #[.int .u8 1,.slice va3 (putBat x).length vc3] 80);have hx4:Ext w3 (w3.alloc (.cells #[.int .u8 1,.slice va3 (putBat x).length vc3] 80)):=(Ext.refl _).alloc _;have hz4:(w3.alloc (.cells #[.int .u8 1,.slice va3 (putBat x).length vc3] 80)).heap.size=w3.heap.size+1:=by simp
   obtain⟨g4,hg4⟩ : ∃ g4,g4=w3.heap.size:=⟨_,rfl⟩
   rw[<-hg4]at hn4 hz4 ⊢;generalize (w3.alloc (.cells #[.int .u8 1,.slice va3 (putBat x).length vc3] 80))=w4 at hn4 hx4 hz4 ⊢;have HN4:=hid hn4;have HX4:=hid (HXW.out.trans (HX3.out.trans hx4));have HX34:=hid (HX3.out.trans hx4);have HX4':=hid hx4;have HZ4:=hid (show w4.heap.size=g4+1/\w2.heap.size<=g4 from⟨hz4,by rw[hg4];exact HX3.out.size⟩);have HP4:=hid (HP.out.keep (HX4.out.keep _));clear hn4 hx4 hz4 hg4 c1;have hnext:GoodB (bs++[x]):=GoodB.snoc x HP.out.good HPX.out (by
    have h:=HI.out;rw[HX.out];exact h) (by
    have h:=HAD.out;rw[<-HX.out]at h;exact h)
   have hlen:=hnext.len;have hl4:(bs++[x]).length<=4:=by
    have h:=HY2.out;rw[h]at hl';exact hl'
   rw[zev,zi4,<-zgf]at hlen;simp only[List.length_append,List.length_singleton]at hlen hl4;have HGN:=hid hnext;have hseg:=zrb (W:=w4) (fun j=>W.heap.size<=j) (.slice (some ⟨g4,0,none⟩) 1 1) 1 (putBat x) (filB bs) ((filB bs).getD []) rfl (nbN ((filB bs).getD []).length) ((filB bs).map List.length)
    (gl:=gl) (C:=C) (φ:=φ) (gf:=gf) (gc:=gc) (ga:=ga) (gm:=gm) (gt:=gt) (gn:=gn) (qn:=qn) (lv:=lvv) (n:=n) (N:=N) (g:=g) (ρ:=ρ) (d:=d) (w:=w) (gs:=gs) (fv:=fv) (zv:=zv) (Sd:=Sd) (fs:=frsB bs)
    ⟨HP4.out.log.putG (by omega) fun s hs=>HP4.out.home.cur hs,by have h:=HP4.out.mem;unfold kB at h;rw[<-zgf]at h;exact h,HP4.out.dis⟩ (by omega) (Nat.le_refl _) (fun i hi=>?_) (by omega) (by omega) (fun i hi=>HP4.out.home.dir i hi) HP4.out.seg (by rw[zcf];omega) HP4.out.segd
    (zst HN4.out (by have:=HSZ.out;have:=HZ4.out;omega) ((zk HO3.out).ext HX4'.out) (fun j hj=>by have h1:=(World.ownsRow.lt HO3.out j hj).1;have h2:=HSZ.out;have h3:=HX2.out.size;omega)) HLE.out
   ·have HSEG:=hid hseg;clear hseg hlen hl4 hnext;refine HSEG.out.mono ?_;rintro e w5 ⟨ρ5,d5,φ5,hro5,hfn5,hkp5,h5⟩;have HRO5:=hid hro5;have HFN5:=hid hfn5;have hU5:Keep (fun j=>¬ U j) W w5:=(HX4.out.keep _).trans (hkp5.mono fun j hj _=>⟨fun h=>hj (HP.out.cov j (.inl h)),fun h=>hj (HP.out.cov j (.inr (.inl h)))⟩);have HU5:=hid hU5;have hkx5:Keep (fun j=>¬ U j\/W.heap.size<=j) w4 w5:=hkp5.mono fun j hj _=>⟨fun h=>by
     have h1:=HP.out.cov j (.inl h);rcases hj with hj|hj
     ·exact hj h1
     ·have:=(HP.out.low j h1).2;omega,fun h=>by
     have h1:=HP.out.cov j (.inr (.inl h));rcases hj with hj|hj
     ·exact hj h1
     ·have:=(HP.out.low j h1).2;omega⟩
    have HKX5:=hid hkx5;have hz5:=hkp5.size;have HZ5:=hid hz5;have hrr:w5.heap[gr]? = _:=(hkx5.block gr (.inr (by have:=HSZ.out;omega)) (by have:=HSZ.out;have:=HZ4.out;omega)).trans (yy HX34.out RR.out);have HRR:=hid hrr;have f0:=zg hrr 0;have f1:=zg hrr 1;have f2:=zg hrr 2;have f3:=zg hrr 3;have g0:w5.cell? ⟨gr,0,none⟩=some (.int .i64 0):=(cr 0 hrr)
    have g1:w5.cell? ⟨gr,1,none⟩=some (.int .i64 0):=(cr 1 hrr)
    have g2:w5.cell? ⟨gr,2,none⟩=some (.int .i64 0):=(cr 2 hrr)
    have g3:w5.cell? ⟨gr,3,none⟩=some (.bool false):=(cr 3 hrr)
    have HKP5:=hid hkp5;clear hro5 hfn5 hkp5 hU5 hkx5 hz5 hrr;rcases h5 with⟨rfl,hfu5,h5⟩|⟨rfl,hnf5,hdn5⟩
    ·obtain⟨C5,gt5,gn5,qn5,lv5,fv5,zv5,Sd5,hla5,hf5,hhm5,h512,hsp5,hdis5,hfin5⟩:=h5;have hsp5t:=hsp5.tight;have HLA5:=hid hla5;have HF5:=hid hf5;have HHM5:=hid hhm5;have HSP5:=hid hsp5t;have HDIS5:=hid hdis5;have HFIN5:=hid (show ∀ j,SegS (fun j=>Sd5 j/\j<w5.heap.size) gs fv5 zv5 j->¬ FsT ρ5 gl φ5 j/\w.heap.size<=j/\(SegS Sd gs fv zv j\/w4.heap.size<=j)/\j<w5.heap.size from fun j hj=>by
      have h1:=hfin5 j (by
       rcases hj with hj|hj|hj|hj
       ·exact .inl hj
       ·exact .inr (.inl hj)
       ·exact .inr (.inr (.inl hj))
       ·exact .inr (.inr (.inr hj.1)))
      refine⟨h1.1,h1.2.1,h1.2.2,?_⟩;rcases hj with hj|hj|hj|hj
      ·rw[hj];exact(blt hsp5t.head)
      ·exact(hsp5t.frames.lt j hj).2
      ·exact(hsp5t.sizes.lt j hj).2
      ·exact hj.2)
     have hrq:w5.heap[q]? = _:=(HKP5.out.block q HP.out.qd (by have:=HX4.out.size;have:=HQW.out;omega)).trans HP4.out.head;have hrb:w5.heap[gb]? = _:=(HKX5.out.block gb (.inr (by have:=HSZ.out;have:=HXW.out.size;have:=HX0.out.size;omega)) (by have:=HSZ.out;have:=HZ4.out;omega)).trans (yy HX34.out RB.out);have hra:w5.heap[gA]? = _:=(HKX5.out.block gA (.inr (by have:=HSZ.out;have:=HX0.out.size;omega)) (by have:=HSZ.out;have:=HZ4.out;omega)).trans (yy HX34.out RA.out);have HRQ:=hid hrq;have HRA:=hid hra;have c2:w5.cell? ⟨q,2,none⟩=some (.pointer (some ⟨gx,0,none⟩)):=(cr 2 hrq)
     have k0:w5.cell? ⟨gb,0,none⟩=some (.string b1):=(cr 0 hrb)
     have k1:w5.cell? ⟨gb,1,none⟩=some (.string b2):=(cr 1 hrb)
     have k2:w5.cell? ⟨gb,2,none⟩=some (.int .i64 b3):=(cr 2 hrb)
     have k3:w5.cell? ⟨gb,3,none⟩=some (.slice ea b4.length ec):=(cr 3 hrb)
     clear hla5 hf5 hhm5 h512 hsp5 hsp5t hdis5 hfin5 hrq hrb hra f0 f1 f2 f3 g0 g1 g2 g3;go_wp2_with fail;have hxd:Ext w5 w5.drew:=(Ext.refl _).drew;have HXD:=hid hxd;have HC5:=hid (show w5.cell? ⟨q,2,none⟩=some (.pointer (some ⟨gx,0,none⟩))/\w5.cell? ⟨gb,0,none⟩=some (.string b1)/\w5.cell? ⟨gb,1,none⟩=some (.string b2)/\w5.cell? ⟨gb,2,none⟩=some (.int .i64 b3)/\w5.cell? ⟨gb,3,none⟩=some (.slice ea b4.length ec) from⟨c2,k0,k1,k2,k3⟩);refine zr (fun w'=>w'.cell? ⟨q,2,none⟩=some (.pointer (some ⟨gx,0,none⟩))/\w'.cell? ⟨gb,0,none⟩=some (.string b1)/\w'.cell? ⟨gb,1,none⟩=some (.string b2)/\w'.cell? ⟨gb,2,none⟩=some (.int .i64 b3)/\w'.cell? ⟨gb,3,none⟩=some (.slice ea b4.length ec)) [5] (by kernel_rfl)
      ⟨Ext.cellS hxd c2,Ext.cellS hxd k0,Ext.cellS hxd k1,Ext.cellS hxd k2,Ext.cellS hxd k3⟩ (fun hS=>?_)
     (refine za 0 rfl ?_;(try simp only[Act.put,tq0,tq1,tq2,tq3,tq4,tq5]));(refine za 1 rfl ?_;(try simp only[Act.put,tq0,tq1,tq2,tq3,tq4,tq5]));(refine za 2 rfl ?_;(try simp only[Act.put,tq0,tq1,tq2,tq3,tq4,tq5]));(refine za 3 rfl ?_;(try simp only[Act.put,tq0,tq1,tq2,tq3,tq4,tq5]));(refine za 4 rfl ?_;(try simp only[Act.put,tq0,tq1,tq2,tq3,tq4,tq5]));clear c2 k0 k1 k2 k3 hxd;refine ze (rs:=[5]) (by kernel_rfl) (by decide) (AllT.consF rfl rfl (fun K hK=>?_) AllT.nil);go_simp;have hix5:Idx T w5.drew gx (ixB bs):=(HP4.out.ix.keep (HKP5.out.mono fun j hj _=>⟨(HP.out.ixd j hj).1,(HP.out.ixd j hj).2.1⟩)).ext HXD.out;have hstr:=HP.out.good.reach.str b1;have hixl:=zat bs;have hTl : ∀ j,T j->j<W.heap.size/\w.heap.size<=j:=fun j hj=>⟨(HP.out.low j (HP.out.cov j (.inr (.inr (.inl hj))))).2,(HP.out.low j (HP.out.cov j (.inr (.inr (.inl hj))))).1⟩
     have hb3:=HB3.out;have hev5:RdS rE w5.drew (fun j=>w0.heap.size<=j) (.slice ea b4.length ec) b4:=by
      have h0:=HEV.out.ext (HXV.out.trans HX34.out);exact(h0.kept (HKX5.out.mono fun j hj _=>.inr (by have:=HX0.out.size;omega))).ext HXD.out
     refine(zne w5.drew T gx (ixB bs) hix5 (by omega) b1 hs b2 hk b3 (by omega) (fun j=>w0.heap.size<=j) (fun j hj h=>by have:=hTl j h;have:=HX0.out.size;omega) _ b4 hev5 hle (by omega)).mono ?_;rintro e w6 ⟨rfl,hix6,hk6⟩;rw[<-HX.out]at hix6 ⊢;have had:(addF (ixB bs) x).2=0:=by
      have h:=HAD.out;rw[<-HX.out]at h;exact h
     rw[had];have HIX6:=hid hix6;have HK6:=hid hk6;have HTL:=hid hTl;clear hix5 hstr hixl hTl hb3 hev5 hix6 hk6 had hS;(refine hK.out _ _ ?_;clear hK K);refine zn (by kernel_rfl) (NoPanic.normal ?_) _;have hk56:Keep (fun j=>¬ T j) w5 w6:=(HXD.out.keep _).trans HK6.out;have hra6:w6.heap[gA]? = _:=(hk56.block gA (fun h=>by have:=HTL.out gA h;have:=HSZ.out;have:=HX0.out.size;omega) (blt HRA.out)).trans HRA.out;have hrr6:w6.heap[gr]? = _:=(hk56.block gr (fun h=>by have:=HTL.out gr h;have:=HSZ.out;omega) (blt HRR.out)).trans HRR.out;have HK56:=hid hk56;have HRR6:=hid hrr6;have f0:=zg hrr6 0;have f1:=zg hrr6 1;have f2:=zg hrr6 2;have f3:=zg hrr6 3;have g0:w6.cell? ⟨gr,0,none⟩=some (.int .i64 0):=(cr 0 hrr6)
     have g1:w6.cell? ⟨gr,1,none⟩=some (.int .i64 0):=(cr 1 hrr6)
     have g2:w6.cell? ⟨gr,2,none⟩=some (.int .i64 0):=(cr 2 hrr6)
     have g3:w6.cell? ⟨gr,3,none⟩=some (.bool false):=(cr 3 hrr6)
     have k0:w6.cell? ⟨gA,0,none⟩=some (.int .i64 a1):=(cr 0 hra6)
     have k1:w6.cell? ⟨gA,1,none⟩=some (.int .i64 a2):=(cr 1 hra6)
     have k2:w6.cell? ⟨gA,2,none⟩=some (.int .i64 a3):=(cr 2 hra6)
     have k3:w6.cell? ⟨gA,3,none⟩=some (.bool false):=(cr 3 hra6)
     clear hk56 hra6 hrr6;go_wp2_with fail;have hw3:=qc (v0:=.int .i64 a1) (v1:=.int .i64 a2) (v2:=.int .i64 a3) (v3:=.bool false) HRR6.out;have hk9:Keep (fun j=>j≠gr) w6 ((((w6.setCell ⟨gr,0,none⟩ (.int .i64 a1)).setCell ⟨gr,1,none⟩ (.int .i64 a2)).setCell ⟨gr,2,none⟩ (.int .i64 a3)).setCell ⟨gr,3,none⟩ (.bool false)):=(((((Keep.refl _ _).setCell (p:=⟨gr,0,none⟩) (fun h=>h rfl) _).setCell (p:=⟨gr,1,none⟩) (fun h=>h rfl) _).setCell (p:=⟨gr,2,none⟩) (fun h=>h rfl) _).setCell (p:=⟨gr,3,none⟩) (fun h=>h rfl) _)
     generalize ((((w6.setCell ⟨gr,0,none⟩ (.int .i64 a1)).setCell ⟨gr,1,none⟩ (.int .i64 a2)).setCell ⟨gr,2,none⟩ (.int .i64 a3)).setCell ⟨gr,3,none⟩ (.bool false))=w9 at hw3 hk9 ⊢;obtain⟨e0,e1,e2,e3⟩:=hw3;refine bodyPost_ret (v:=.tuple #[encA (a1,a2,a3,false),.int .i64 ((0:Nat):Int)]) (by simp[results,Tryz.results11,go_sem,encA,app0,e0,e1,e2,e3]) rfl ?_;clear e0 e1 e2 e3 f0 f1 f2 f3 g0 g1 g2 g3 k0 k1 k2 k3;have hsz:=HSZ.out;have hz4:=HZ4.out;have hz5:=HZ5.out;have hxd:=HXD.out.size;have hz6:=HK6.out.size;have hwW:=HP.out.log.hm.ex.size;have hqW:=HQW.out;have hUl:=HP.out.low;have hcv:=HP.out.cov;have hz0:=HX0.out.size;have hz9:=hk9.size;have hFsT : ∀ j,FsT ρ5 gl φ5 j->FsT ρ gl φ j\/w4.heap.size<=j:=fun j hj=>by
      rcases hj with h|h|h
      ·rcases HRO5.out j h with h|h
       ·exact .inl (.inl h)
       ·exact .inr h
      ·exact .inl (.inr (.inl h))
      ·rcases HFN5.out j h with h|h
       ·exact .inl (.inr (.inr h))
       ·exact .inr h
     have hFsU : ∀ j,FsT ρ5 gl φ5 j->U j\/W.heap.size<=j:=fun j hj=>by
      rcases hFsT j hj with h|h
      ·exact .inl (hcv j (.inl h))
      ·exact .inr (by omega)
     have hSgU : ∀ j,SegS (fun j=>Sd5 j/\j<w5.heap.size) gs fv5 zv5 j->U j\/W.heap.size<=j:=fun j hj=>by
      rcases (HFIN5.out j hj).2.2.1 with h|h
      ·exact .inl (hcv j (.inr (.inl h)))
      ·exact .inr (by omega)
     have hFsl : ∀ j,FsT ρ5 gl φ5 j->w.heap.size<=j/\j<w5.heap.size:=fun j hj=>by
      refine⟨?_,?_⟩
      ·rcases hFsU j hj with h|h
       ·exact(hUl j h).1
       ·omega
      ·rcases hj with h|h|h
       ·rcases Nat.lt_or_ge j w5.heap.size with h2|h2
        ·exact h2
        ·exact absurd (HLA5.out.hm.late (Ext.refl _) h2) h
       ·have:=HLA5.out.log.lt;omega
       ·exact HF5.out.lt j h
     have hnT : ∀ j,T j->¬ FsT ρ5 gl φ5 j/\¬ SegS (fun j=>Sd5 j/\j<w5.heap.size) gs fv5 zv5 j/\w.heap.size<=j/\j<W.heap.size/\j≠q:=fun j hj=>by
      have h1:=HP.out.ixd j hj;have h2:=HTL.out j hj;refine⟨fun h=>?_,fun h=>?_,h2.2,h2.1,h1.2.2⟩
      ·rcases hFsT j h with h|h
       ·exact h1.1 h
       ·omega
      ·rcases (HFIN5.out j h).2.2.1 with h|h
       ·exact h1.2.1 h
       ·omega
     have hngr : ¬ FsT ρ5 gl φ5 gr/\¬ SegS (fun j=>Sd5 j/\j<w5.heap.size) gs fv5 zv5 gr:=by
      refine⟨fun h=>?_,fun h=>?_⟩
      ·rcases hFsT gr h with h|h
       ·have:=(hUl gr (hcv gr (.inl h))).2;omega
       ·omega
      ·rcases (HFIN5.out gr h).2.2.1 with h|h
       ·have:=(hUl gr (hcv gr (.inr (.inl h)))).2;omega
       ·omega
     have hk59:Keep (fun j=>¬ T j/\j≠gr) w5 w9:=(HK56.out.mono fun j hj _=>hj.1).trans (hk9.mono fun j hj _=>hj.2);have hla9:LogAt w w9 g ρ5 (N+21000) d5 gl 64 (n+1) C5:=HLA5.out.keepT (hk59.mono fun j hj _=>⟨fun h=>?_,fun h=>?_⟩)
     ·have hfl:filB (bs++[x])=some ((filB bs).getD []++putF 1 (putBat x)):=ziv bs x;have hst:stallF (frsB (bs++[x]))=(filB bs).getD []++putF 1 (putBat x):=by rw[<-zgf,hfl];rfl
      rw[HY2.out];refine⟨ρ5,d5,fun j=>FsT ρ5 gl φ5 j\/SegS (fun j=>Sd5 j/\j<w5.heap.size) gs fv5 zv5 j\/(T j\/(w5.drew.heap.size<=j/\j<w6.heap.size))\/j=q,fun j hj=>?_,?_,fun j hj=>.inl (.inl hj),.inl ⟨rfl,hfu5,n+1,Nat.le_refl _,gl,C5,φ5,gf,gc,ga,gm,gt5,gn5,qn5,lv5,gs,fv5,zv5,(fun j=>Sd5 j/\j<w5.heap.size),gx,(fun j=>T j\/(w5.drew.heap.size<=j/\j<w6.heap.size)),
       {
        head:=(hk59.block q ⟨fun h=>(HP.out.ixd q h).2.2 rfl,by omega⟩ (by omega)).trans HRQ.out,log:=hla9,
        mem:= ?_,dis:=HDIS5.out,home:=(by show FsHome C5 (filB (bs++[x]));rw[hfl];exact HHM5.out),seg:= ?_,segd:=fun j hj=>⟨(HFIN5.out j hj).1,(HFIN5.out j hj).2.1⟩,
        ix:= ?_,ixd:=fun j hj=>?_,qd:=⟨fun h=>?_,fun h=>?_⟩,cov:=fun j hj=>hj,low:=fun j hj=>?_,good:=HGN.out }⟩⟩
      ·rcases hj with hj|hj|(hj|hj)|hj
       ·exact hFsU j hj
       ·exact hSgU j hj
       ·exact .inl (hcv j (.inr (.inr (.inl hj))))
       ·exact .inr (by omega)
       ·exact .inl (hcv j (.inr (.inr (.inr hj))))
      ·have hku:Keep (fun j=>¬ U j/\j<W.heap.size) W w5:=HU5.out.mono fun j hj _=>hj.1;exact(hku.trans (hk59.mono fun j hj _=>⟨fun h=>hj.1 (hcv j (.inr (.inr (.inl h)))),by have:j<W.heap.size:=hj.2;omega⟩)).mono fun j hj hl=>⟨hj,hl⟩
      ·have hkb:kB (bs++[x])=⟨some ((filB bs).getD []++putF 1 (putBat x)).length,nbN ((filB bs).getD []++putF 1 (putBat x)).length,nbN ((filB bs).getD []++putF 1 (putBat x)).length,nbN ((filB bs).getD []++putF 1 (putBat x)).length,some ((filB bs).getD []++putF 1 (putBat x)).length⟩:=by
        unfold kB;rw[hst,hfl];rfl
       rw[hkb];exact HF5.out.keep (hk59.mono fun j hj _=>⟨fun h=>(hnT j h).1 (.inr (.inr hj)),fun h=>hngr.1 (.inr (.inr (h▸hj)))⟩)
      ·have hzb:szB (bs++[x])=[(((filB bs).getD []++putF 1 (putBat x)).length:Int)]:=by
        unfold szB;rw[hfl];rfl
       rw[hzb,zev];exact HSP5.out.keep (hk59.mono fun j hj _=>⟨fun h=>(hnT j h).2.1 hj,fun h=>hngr.2 (h▸hj)⟩)
      ·rw[zga];exact HIX6.out.keep (hk9.mono fun j hj _ e=>by
        subst e;rcases hj with hj|hj
        ·have:=HTL.out j hj;omega
        ·omega)
      ·rcases hj with hj|hj
       ·have h:=hnT j hj;exact⟨h.1,h.2.1,h.2.2.2.2⟩
       ·refine⟨fun h=>?_,fun h=>?_,by omega⟩
        ·have:=hFsl j h;omega
        ·have:=(HFIN5.out j h).2.2.2;omega
      ·rcases hFsT q h with h|h
       ·exact HP.out.qd.1 h
       ·omega
      ·rcases (HFIN5.out q h).2.2.1 with h|h
       ·exact HP.out.qd.2 h
       ·omega
      ·rcases hj with hj|hj|(hj|hj)|hj
       ·have:=hFsl j hj;omega
       ·have:=HFIN5.out j hj;omega
       ·have:=HTL.out j hj;omega
       ·omega
       ·have:=hUl q (hcv q (.inr (.inr (.inr rfl))));omega
     ·have h1:=hnT j h;rcases hj with (hj|hj)|hj
      ·exact h1.1 (.inl hj)
      ·omega
      ·exact h1.1 (.inr (.inl hj))
     ·subst h;rcases hj with (hj|hj)|hj
      ·exact hngr.1 (.inl hj)
      ·omega
      ·exact hngr.1 (.inr (.inl hj))
    ·have HDN5:=hid hdn5;clear hdn5;go_wp2_with fail;have hw3:=qc (v0:=.int .i64 0) (v1:=.int .i64 0) (v2:=.int .i64 0) (v3:=.bool false) HRR.out;have hk9:Keep (fun j=>j≠gr) w5 ((((w5.setCell ⟨gr,0,none⟩ (.int .i64 0)).setCell ⟨gr,1,none⟩ (.int .i64 0)).setCell ⟨gr,2,none⟩ (.int .i64 0)).setCell ⟨gr,3,none⟩ (.bool false)):=(((((Keep.refl _ _).setCell (p:=⟨gr,0,none⟩) (fun h=>h rfl) _).setCell (p:=⟨gr,1,none⟩) (fun h=>h rfl) _).setCell (p:=⟨gr,2,none⟩) (fun h=>h rfl) _).setCell (p:=⟨gr,3,none⟩) (fun h=>h rfl) _)
     generalize ((((w5.setCell ⟨gr,0,none⟩ (.int .i64 0)).setCell ⟨gr,1,none⟩ (.int .i64 0)).setCell ⟨gr,2,none⟩ (.int .i64 0)).setCell ⟨gr,3,none⟩ (.bool false))=w9 at hw3 hk9 ⊢;obtain⟨e0,e1,e2,e3⟩:=hw3;refine bodyPost_ret (v:=.tuple #[encA app0,.int .i64 2]) (by simp[results,Tryz.results11,go_sem,encA,app0,e0,e1,e2,e3]) rfl ?_;have hsz:=HSZ.out;have hz4:=HZ4.out;have hku:Keep (fun j=>¬ U j/\j<W.heap.size) W w5:=HU5.out.mono fun j hj _=>hj.1;refine⟨ρ5,d5,fun j=>U j\/W.heap.size<=j,fun j hj=>hj,(hku.trans (hk9.mono fun j hj _=>by have:j<W.heap.size:=hj.2;omega)).mono fun j hj hl=>⟨hj,hl⟩,fun j hj=>?_,.inr ⟨rfl,hnf5,{ HDN5.out with hm:=HDN5.out.hm.kept (hk9.mono fun j hj _ e=>?_),img:=fun s hs=>?_ }⟩⟩
     ·rcases HRO5.out j hj with h|h
      ·exact .inl (HP.out.cov j (.inl (.inl h)))
      ·exact .inr (by omega)
     ·subst e;rcases hj with hj|hj
      ·rcases HRO5.out j hj with h|h
       ·have:=(HP.out.low j (HP.out.cov j (.inl (.inl h)))).2;omega
       ·omega
      ·have:=HP.out.log.hm.ex.size;omega
     ·have h:=HDN5.out.img s hs;rw[HY2.out];show FsImg (n+1) s (filB bs)\/FsImg (n+1) s (filB (bs++[x]));rw[ziv];rcases h with h|h
      ·exact .inl (h.more (by omega))
      ·exact .inr h
   ·have h1:(filB bs)=some ((filB bs).getD []):=by
     cases e:filB bs with
     | none=>rw[e]at hi;exact absurd hi (by show ¬ i<nbN 0;simp[nbN])
     | some b=>rfl
    have h2:=zah (n:=((filB bs).getD []).length) (by omega);exact⟨HP4.out.home.data _ h1 i hi,HP4.out.log.l512 _ (by omega) (by omega)⟩
  ·obtain rfl:=hn3 hpz;have hY2:Y=(app0,(110,bs)):=by
    rw[HY.out];unfold appB;rw[<-HT.out];dsimp only;rw[if_neg (by simp),<-HPE.out,if_pos hpz]
   have HY2:=hid hY2;have he1:((pe.2:Int) == 0)=false:=by simp;omega
   have he2:((pe.2:Int) != 0)=true:=by simp;omega
   have he3 : ¬ ((pe.2:Int)=0):=by omega
   have hrr:w3.heap[gr]? = _:=yy HX3.out RR.out;have f0:=zg hrr 0;have f1:=zg hrr 1;have f2:=zg hrr 2;have f3:=zg hrr 3;have g0:w3.cell? ⟨gr,0,none⟩=some (.int .i64 0):=(cr 0 hrr)
   have g1:w3.cell? ⟨gr,1,none⟩=some (.int .i64 0):=(cr 1 hrr)
   have g2:w3.cell? ⟨gr,2,none⟩=some (.int .i64 0):=(cr 2 hrr)
   have g3:w3.cell? ⟨gr,3,none⟩=some (.bool false):=(cr 3 hrr)
   have HRR:=hid hrr;clear hY2 ho3 hn3 hrr;go_wp2_with fail;have hw3:=qc (v0:=.int .i64 0) (v1:=.int .i64 0) (v2:=.int .i64 0) (v3:=.bool false) HRR.out;have hx3:Ext W ((((w3.setCell ⟨gr,0,none⟩ (.int .i64 0)).setCell ⟨gr,1,none⟩ (.int .i64 0)).setCell ⟨gr,2,none⟩ (.int .i64 0)).setCell ⟨gr,3,none⟩ (.bool false)):=(((((HXW.out.trans HX3.out).setCell (p:=⟨gr,0,none⟩) (by dsimp only;have:=HSZ.out;omega) _).setCell (p:=⟨gr,1,none⟩) (by dsimp only;have:=HSZ.out;omega) _).setCell (p:=⟨gr,2,none⟩) (by dsimp only;have:=HSZ.out;omega) _).setCell (p:=⟨gr,3,none⟩) (by dsimp only;have:=HSZ.out;omega) _)
   generalize ((((w3.setCell ⟨gr,0,none⟩ (.int .i64 0)).setCell ⟨gr,1,none⟩ (.int .i64 0)).setCell ⟨gr,2,none⟩ (.int .i64 0)).setCell ⟨gr,3,none⟩ (.bool false))=w9 at hw3 hx3 ⊢;obtain⟨e0,e1,e2,e3⟩:=hw3;refine bodyPost_ret (v:=.tuple #[encA (app0),.int .i64 ((110:Nat):Int)]) (by simp[results,Tryz.results11,go_sem,encA,app0,e0,e1,e2,e3]) rfl ?_;exact HEND.out app0 110 w9 hx3 HY2.out
end
end
end Go.Proofs.YtnadlnmclameiaaGreatDoor
