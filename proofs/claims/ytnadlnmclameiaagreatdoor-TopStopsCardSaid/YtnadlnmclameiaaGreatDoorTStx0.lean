/- part 50 -/
import Derived.Test.YtnadlnmclameiaaGreatDoorTS49
set_option maxRecDepth 100000
set_option maxHeartbeats 8000000
set_option linter.all false
namespace Go.Proofs.YtnadlnmclameiaaGreatDoor
section
open Go.RowKit Go.Maps
theorem zsg {w w':World}{S S':Nat->Prop}{cs:List Value}{b:Bk} (h:rBk.rd w S cs b):rBk.rd w' S' cs b:=h
open Go.RowKit Go.Maps
section
variable {w:World}{g:Nat}{ρ:Nat->Option DRol}{N:Nat}{d:Dv}
theorem znc (h:DvAt w g ρ N d):Calls Tryz.prog 17 #[.pointer (some ⟨g,0,none⟩)] w fun e w'=>e = .returned (.int .i64 d.ops)/\w=w':=by
 obtain⟨vs,gm,m,h⟩:=h;have c4:=h.c4;clear h;go_enter Tryz.func17,Tryz.ntmps17;go_wp2_with fail;go_ret;exact⟨rfl,rfl⟩
end
open Go.RowKit Go.Maps
end
section
open Go.RowKit Go.Maps
theorem zlq (left:Lit->Bool) (x:Int):(fun z:Lit=>left z && !z.sameKey (.int .i64 x)) (.int .i64 x)=false:=by simp[Lit.sameKey]
open Go.RowKit Go.Maps
end
section
open Go.RowKit Go.Maps Go.Sort Go.Shelf
theorem zf1 (w:World) (S:Nat->Prop) (v:Value) (fs:List Bk) (h:RdS rBk w S v fs) (hl:fs.length<=2000000000) :
  Calls Tryz.prog 35 #[v] w fun e w'=>∃ v',e = .returned v'/\OwnS rBk 85 w' w.heap.size (fun _=>False) v' fs/\Ext w w':=by
 have hnil:=fun w=>Lib.run_eql_slice_nil (P:=Tryz.prog) w;obtain⟨a,cap,rfl,hc1,hc2⟩:=h.slice;have H:=hid h;cases a with
 | none=>
  have h0:fs=[]:=by
   cases fs with
   | nil=>rfl
   | cons f fs=>obtain⟨g,o,cap',cs,e,_⟩:=h.at 0 (by simp);simp at e
  subst h0;clear h;go_enter Tryz.func35,Tryz.ntmps35;go_wp2_with fail;go_ret;exact⟨_,rfl,OwnS.nil _ _ _ _ _,Ext.refl _⟩
 | some a=>
  obtain⟨gs,hgs,hsrc,hall⟩:=(h.ext ((Ext.refl w).alloc (.cells #[] 85))).src Tryz.underlying62;have HG:=hid hgs;have hgl:gs.length=fs.length:=by rw[hgs,List.length_map]
  have HSRC:=hid hsrc;have HALL:=hid hall;have HGL:=hid hgl;have HA:=OwnS.made rBk 85 w (fun _=>False) (fun h=>h);clear h hgs hsrc hall hgl;go_enter Tryz.func35,Tryz.ntmps35;go_wp2_with (at_builtin;go_must (refine vw rBk rfl _ _ _ _ _ zBk 512 rfl Tryz.underlying62 zgz (by simp[zBk,Value.cells,rBk]) w.heap.size _ _ [] rfl HA _ gs rfl HSRC.out (fun p hp=>zsg (HALL.out p hp)) (fun _ h=>h.elim) (by have:=HGL.out;simp only[List.length_nil,Nat.zero_add];omega) (by have:=HGL.out;simp only[List.length_nil,Nat.zero_add];omega) (by simp) ?_;intro v' w' k1 k2 k3;rw[List.nil_append,<-HG.out]at k1))
  go_ret;exact⟨_,rfl,k1,((Ext.refl w).alloc _).grown k2 (fun k hk=>by cases hk;exact Nat.le_refl _)⟩
theorem DvP.put {w wB w':World}{g:Nat}{ρ:Nat->Option DRol}{N:Nat}{d:Dv}{vs:Value}{gm:Nat}{m:Int->Option Value} (h:DvP w g ρ N d vs gm m) {n:Int} (hn:kInt.ok n) (hr:0<=n/\n<d.safe.length) {l:List Bk}{v':Value}{N':Nat} (hl0:l≠[]) (hl:l.length<=N') (hNN:N<=N') (hxB:Ext w wB)
  (hp0:d.pend n=[]) (hm0:m n=none) (ho:OwnS rBk 85 wB 0 (fun _=>False) v' l) (hv' : ∀ k,v'.ownBlock=some k->w.heap.size<=k)
  (hm:MapG kInt w' gm N' (upd m n v')) (hg:wB.grownBy w' (some gm)) :
  DvP w' g (rolW ρ v' n) N' { d with pend:=setP d.pend n l } vs gm (upd m n v')/\Keep (fun k=>k≠gm) w w'/\(∀ k,rolW ρ v' n k≠none->ρ k≠none\/w.heap.size<=k):=by
 have hkC:Keep (fun j=>j≠gm) wB w':=(zl hg).mono fun j hj _ e=>hj (Option.some.inj e);have hk:Keep (fun j=>j≠gm) w w':=(hxB.keep _).trans hkC;have hold : ∀ k,ρ k≠none->¬ v'.ownBlock=some k:=fun k h1 e=>by
  have:=hv' k e;have:=h.lt k h1;omega
 have hro : ∀ k r,ρ k=some r->rolW ρ v' n k=some r:=fun k r h1=>by
  unfold rolW;rw[if_neg (hold k (by rw[h1];simp))];exact h1
 have hgm:gm<w.heap.size:=h.map.lt;have hvlt : ∀ k,v'.ownBlock=some k->k<w'.heap.size:=fun k hkk=>Nat.lt_of_lt_of_le (ho.lt k hkk).2 hkC.size;refine⟨{
  head:=by rw[hk.block g h.ne h.glt];exact h.head
  rg:=hro g _ h.rg
  safe:=h.safe.kept (hk.mono fun j hj _=>by
   rcases hj with hj|hj
   ·exact hj.elim
   ·exact(h.nvs j hj).2)
  rsafe:=fun k hkk=>hro k _ (h.rsafe k hkk)
  map:=hm
  rm:=hro gm _ h.rm
  pend:=fun t ht=>?_
  rpend:=fun t ht k hkk=>?_
  has:=fun t ht=>?_
  rng:=fun t ht=>?_
  lt:=fun k hr=>?_
  size:=h.size
  fuse:=h.fuse
  ops:=⟨h.ops.1,by have:=h.ops.2;dsimp only;omega⟩
  long:=fun t=>?_ },hk,fun k hr=>?_⟩
 ·by_cases e:t=n
  ·subst e;rw[k9];simp only[setP,if_true,Option.getD_some];refine ho.kept (hkC.mono fun j hj _ e=>?_);subst e;rcases hj with hj|hj
   ·exact hj.elim
   ·have:=hv' _ hj;omega
  ·rw[xz _ _ e];simp only[setP,if_neg e];refine(h.pend t ht).kept (hk.mono fun j hj _ e'=>?_);rcases hj with hj|hj
   ·exact hj.elim
   ·have h1:=h.rpend t ht j hj;rw[e',h.rm]at h1;simp at h1
 ·by_cases e:t=n
  ·subst e;rw[k9]at hkk;simp only[Option.getD_some]at hkk;unfold rolW;rw[if_pos hkk]
  ·rw[xz _ _ e]at hkk;exact hro k _ (h.rpend t ht k hkk)
 ·by_cases e:t=n
  ·subst e;rw[k9];simp[setP,hl0]
  ·rw[xz _ _ e];simp only[setP,if_neg e];exact h.has t ht
 ·by_cases e:t=n
  ·subst e;exact hr
  ·simp only[setP,if_neg e]at ht;exact h.rng t ht
 ·unfold rolW at hr;split at hr
  ·rename_i e;exact hvlt k e
  ·exact Nat.lt_of_lt_of_le (h.lt k hr) hk.size
 ·by_cases e:t=n
  ·subst e;simp only[setP,if_true];exact hl
  ·simp only[setP,if_neg e];exact Nat.le_trans (h.long t) hNN
 ·unfold rolW at hr;split at hr
  ·rename_i e;exact .inr (hv' k e)
  ·exact .inl hr
theorem DvP.tight {w:World}{g:Nat}{ρ:Nat->Option DRol}{N:Nat}{d:Dv}{vs:Value}{gm:Nat}{m:Int->Option Value} (h:DvP w g ρ N d vs gm m):MapG kInt w gm 512 m:=by
 obtain⟨D,hown,hkeys⟩:=h.map;obtain⟨es,hD,hpw,_⟩:=hown.entries (int_keyed Tryz.underlying3);obtain⟨es',hD',hko⟩:=hown.keysOf;obtain rfl:es=es':=by rw[hD]at hD';simpa using hD'
 subst hD;have hsz:=h.size.2;have hk' : ∀ p∈es,∃ x:Int,p.1 = .int .i64 x/\kInt.ok x:=fun p hp=>by
  obtain⟨v,hv⟩:=hko p hp;obtain⟨x,_,hx,hw⟩:=Maps.keyOf_i64 Tryz.underlying3 hv;refine⟨x,hx,?_⟩;have hw:(decide (IntKind.i64.min<=x) && decide (x<=IntKind.i64.max))=true:=hw;rw[Bool.and_eq_true,decide_eq_true_eq,decide_eq_true_eq]at hw;exact hw
 have hmem : ∀ x,x∈qz d↔Maps.has (DataW.map es) (Lit.int .i64 x)=true:=fun x=>by
  rw[zeo h.rng];constructor
  ·intro hp;have hr:=h.rng x hp;have hok:kInt.ok x:=⟨by omega,by omega⟩
   have h1:=(h.has x hok).2 hp;rcases hkeys x hok with⟨e,_⟩|⟨u,_,e,_⟩
   ·rw[e]at h1;cases h1
   ·exact e
  ·intro hh;have hok:kInt.ok x:=by
    rw[Maps.has_eq,List.any_eq_true]at hh;obtain⟨p,hp,hs⟩:=hh;obtain⟨a,ha,hok⟩:=hk' p hp;rw[ha]at hs;have:a=x:=by simpa[Lit.sameKey] using hs
    exact this▸hok
   refine(h.has x hok).1 ?_;rcases hkeys x hok with⟨_,e⟩|⟨u,e,_⟩
   ·rw[show kInt.lit x = .int .i64 x from rfl,hh]at e;cases e
   ·rw[e];rfl
 have hperm:=perm_intKeys hpw (fun p hp=>by obtain⟨x,hx,_⟩:=hk' p hp;exact⟨x,hx⟩) ((zf6 d).imp fun h=>by omega) hmem;have hlen:es.length<=512:=by
  have h1:=hperm.length_eq;have h2:(intKeys (DataW.map es)).length=es.length:=List.length_map ..;have h3:=zii d;rw[br]at h1;omega
 obtain⟨es2,clock,hb,F,hs,hD⟩:=hown;have hse:es2.size=es.length:=by
  have:=DataW.map.inj hD;rw[this,length_sorted];simp
 exact⟨DataW.map es,⟨es2,clock,hb,F,by omega,hD⟩,hkeys⟩
def zay (d:Dv) (left:Lit->Bool):Int->List Bk:=fun t=>if left (.int .i64 t)=true then [] else d.pend t
theorem zpz {d:Dv}{left:Lit->Bool} (h : ∀ x:Int,left (.int .i64 x)=false):zay d left=d.pend:=by
 funext t;unfold zay;rw[h,if_neg (by simp)]
theorem zny {d:Dv}{left:Lit->Bool}{x:Int}:zay d (fun z=>left z && !z.sameKey (.int .i64 x))=setP (zay d left) x (d.pend x):=by
 funext t;unfold zay setP;by_cases e:t=x
 ·subst e;rw[zlq,if_neg (by simp),if_pos rfl]
 ·rw[zeh left e,if_neg e]
theorem zlx {w:World}{g:Nat}{ρ:Nat->Option DRol}{N:Nat}{d:Dv}{vs:Value}{gm:Nat}{m:Int->Option Value} (h:DvP w g ρ N d vs gm m) {left:Lit->Bool} (hl:zhr kInt m left):zay d left=fun _=>[]:=by
 funext t;unfold zay;by_cases hp:d.pend t=[]
 ·rw[hp,ite_self]
 ·have hr:=h.rng t hp;have hs:=h.size.2;have ht:kInt.ok t:=⟨by omega,by omega⟩
  have h1:=hl t ht;rw[(h.has t ht).2 hp]at h1;rw[show (Lit.int .i64 t)=kInt.lit t from rfl,h1,if_pos rfl]
theorem zr9 {W1 W2:World} (hx:Ext W1 W2) {k:Nat}{x:Obj} (hr:W1.heap[k]? = some x):W2.heap[k]? = some x:=(Below.block hx k (blt hr)).trans hr
theorem zli (w:World) (g:Nat) (ρ:Nat->Option DRol) (N:Nat) (d:Dv) (h:DvAt w g ρ N d) (hN:N<=1000000000) :
  Calls Tryz.prog 16 #[.pointer (some ⟨g,0,none⟩)] w fun e w'=>∃ g' ρ',e = .returned (.pointer (some ⟨g',0,none⟩))/\DvAt w' g' ρ' (N+1000) d/\(∀ k,ρ' k≠none->w.heap.size<=k)/\Ext w w':=by
 obtain⟨vs,gm,m,hp⟩:=h;obtain⟨va,vc,rfl⟩:=hp.safe.slice;have c0:=hp.c0;have c1:=hp.c1;have c2:=hp.c2;have c3:=hp.c3;have c4:=hp.c4;have hgl:=hp.glt;have HP:=hid hp;have hmm:= @run_makeMap Tryz.prog;clear hp;go_enter Tryz.func16,Tryz.ntmps16;go_wp2_with fail;obtain⟨w1,hw1⟩ : ∃ w1,w1=w.alloc (.cells #[.slice va d.safe.length vc,.map (some gm),.int .i64 d.fuse,.bool d.down,.int .i64 d.ops] 65):=⟨_,rfl⟩
 rw[<-hw1];have hx1:Ext w w1:=by rw[hw1];exact(Ext.refl _).alloc _
 have hr1:w1.heap[w.heap.size]? = some (.cells #[.slice va d.safe.length vc,.map (some gm),.int .i64 d.fuse,.bool d.down,.int .i64 d.ops] 65 (0,0)):=by rw[hw1];exact heap_alloc_new _ _
 have hs1:w1.heap.size=w.heap.size+1:=by rw[hw1];simp
 clear hw1;obtain⟨g',hg'⟩ : ∃ g',g'=w.heap.size:=⟨_,rfl⟩
 rw[<-hg']at hr1 ⊢;have hsz:=HP.out.size;refine(zf1 w1 _ _ d.safe ((HP.out.safe.ext hx1).rd) (by omega)).mono ?_;rintro e w2 ⟨v2,rfl,ho2,hx2⟩;obtain⟨gs',sc',e,hgs2,-,-⟩:=ho2.atBk 0 (by omega);subst e;have hgs1:w1.heap.size<=gs':=(ho2.lt gs' rfl).1;have hr2:=zr9 hx2 hr1;have k0:w2.cell? ⟨g',0,none⟩=some (.slice va d.safe.length vc):=(cr _ hr2)
 have k1:w2.cell? ⟨g',1,none⟩=some (.map (some gm)):=(cr _ hr2)
 have f0:=zg hr2 0;have f1:=zg hr2 1;have hgl2:g'<w2.heap.size:=by have:=hx2.size;omega
 have c1':w2.cell? ⟨g,1,none⟩=some (.map (some gm)):=(hx1.trans hx2).cellS c1;have hgg : ¬ g'=g:=by omega
 have hgg2 : ¬ g=g':=by omega
 have hgl2':g<w2.heap.size:=by omega
 have HG':=hid hg';clear hg';obtain⟨W5,hW5⟩ : ∃ W5,W5=((w2.setCell ⟨g',0,none⟩ (.slice (some ⟨gs',0,none⟩) d.safe.length sc')).setCell ⟨g',1,none⟩ (.map (some w2.heap.size))).alloc (.map #[] 0):=⟨_,rfl⟩
 have hs5:W5.heap.size=w2.heap.size+1:=by rw[hW5];simp
 have hk5:Keep (fun k=>k≠g') w2 W5:=by
  rw[hW5];exact(((Keep.refl _ w2).setCell (by simp) _).setCell (by simp) _).trans (((Ext.refl _).alloc _).keep _)
 have hx5:Ext w W5:=Keep.ext ((((hx1.trans hx2).keep (fun k=>k<w.heap.size))).trans (hk5.mono fun k hk _=>by have:=HG'.out;omega) |>.mono fun k _ hl=>hl);have hr5:W5.heap[g']? = some (.cells #[.slice (some ⟨gs',0,none⟩) d.safe.length sc',.map (some w2.heap.size),.int .i64 d.fuse,.bool d.down,.int .i64 d.ops] 65 (0,0)):=by
  rw[hW5];exact(Below.heap_alloc _ _ g' (by simp;exact hgl2)).trans ((zw (o:=1) (zw (o:=0) hr2 _) _).trans rfl)
 have hm5:MapG kInt W5 w2.heap.size 0 (fun _=>none):=by
  have:=MapG.made kInt ((w2.setCell ⟨g',0,none⟩ (.slice (some ⟨gs',0,none⟩) d.safe.length sc')).setCell ⟨g',1,none⟩ (.map (some w2.heap.size)));rw[<-hW5]at this;simpa using this
 have hq1 : ¬ g'=gs':=by have:=HG'.out;omega
 have hq2 : ¬ g'=w2.heap.size:=by omega
 have hq3 : ¬ w2.heap.size=gs':=by omega
 have ho5:=ho2.kept (hk5.mono fun k hk _ e=>by
  rcases hk with hk|hk
  ·exact hk.elim
  ·simp only[Value.ownBlock,Option.some.injEq]at hk;omega)
 have hpN:=HP.out.ops;have hC5:DvP W5 g' (fun k=>if k=gs' then some .safe else if k=w2.heap.size then some .pmap else if k=g' then some .dev else none) (N+600) { d with pend:=fun _=>[] } (.slice (some ⟨gs',0,none⟩) d.safe.length sc') w2.heap.size (fun _=>none):={
  head:=hr5
  rg:=by simp[hq1,hq2]
  safe:=ho5.low (Nat.zero_le _)
  rsafe:=fun k hk=>by
   simp only[Value.ownBlock,Option.some.injEq]at hk;simp[<-hk]
  map:=hm5.mono (by omega)
  rm:=by simp[hq3]
  pend:=fun s hs=>OwnS.nil _ _ _ _ _
  rpend:=fun s hs k hk=>by simp[nilS,Value.ownBlock]at hk
  has:=fun s hs=>by simp
  rng:=fun s hs=>by simp at hs
  lt:=fun k hk=>by
   try simp only at hk
   split at hk
   ·omega
   ·split at hk
    ·omega
    ·split at hk
     ·omega
     ·exact absurd rfl hk
  size:=HP.out.size
  fuse:=HP.out.fuse
  ops:=⟨hpN.1,by dsimp only;omega⟩
  long:=fun s=>by simp }
 have hn5 : ∀ k,(if k=gs' then some DRol.safe else if k=w2.heap.size then some .pmap else if k=g' then some .dev else none)≠none->w.heap.size<=k/\k<W5.heap.size:=fun k hk=>by
  have:=HG'.out;split at hk
  ·omega
  ·split at hk
   ·omega
   ·split at hk
    ·omega
    ·exact absurd rfl hk
 obtain⟨w6,left,cnt,hrun,hmr,hla,hx6,hs6⟩:=(HP.out.ext hx5).map.range Tryz.underlying63;have hrs:=zlx HP.out hla;generalize hρ5:(fun k=>if k=gs' then some DRol.safe else if k=w2.heap.size then some .pmap else if k=g' then some .dev else none)=ρ5 at hC5;have hn5' : ∀ k,ρ5 k≠none->w.heap.size<=k/\k<W5.heap.size:=fun k hk=>hn5 k (by rw[<-hρ5]at hk;exact hk);have HC6:=hid (hC5.ext hx6);have HN5:=hid hn5';have HMR:=hid hmr;have HRS:=hid hrs;have HX6:=hid (hx5.trans hx6);have HS6:=hid hs6;obtain⟨gm',hgm'⟩ : ∃ gm',gm'=w2.heap.size:=⟨_,rfl⟩
 obtain⟨r,hr⟩ : ∃ r,r=W5.heap.size:=⟨_,rfl⟩
 rw[<-hr]at hrun HMR HN5;rw[<-hgm']at HC6;rw[hW5]at hrun;have hsr:gs'<r:=by omega
 have hgr:g'<r:=by omega
 have hmr':gm'<r:=by omega
 have hwr:w.heap.size<=r:=by have:=hx5.size;omega
 have hgmr:gm<w.heap.size:=HP.out.map.lt;have HGM:=hid hgm';have hwm:w.heap.size<=gm':=by have:=hx2.size;have:=hx1.size;omega
 clear hgm' hx1 hx2 hx5 hk5 hr5 hm5 ho5 ho2 hn5 hn5' hC5 hrs hmr hla hx6 hs6 hρ5 hr2 hr1 hW5 hs5 hs1 hgs1 hr;go_wp2_with fail;go_loopw [4] (fun _ wr=>∃ left cnt m' ρ',MapR kInt wr gm r N m left cnt/\DvP wr g' ρ' (N+600) { d with pend:=zay d left } (.slice (some ⟨gs',0,none⟩) d.safe.length sc') gm' m'/\(∀ k,ρ' k≠none->w.heap.size<=k/\k≠r)/\Ext w wr) (fun _ wr=>wr.rangeLeft gm r);case atStart=>exact⟨left,cnt,_,ρ5,HMR.out,by rw[HRS.out];exact HC6.out,fun k hk=>⟨(HN5.out k hk).1,by have:=(HN5.out k hk).2;omega⟩,HX6.out⟩
 case round=>
  clear HMR HRS HC6 HN5 HX6 HS6 hrun left cnt;obtain⟨left,cnt,m',ρ',hmr,hpr,hnr,hxr⟩:=hrel;go_wp2_with (first|(at_next;refine zml rfl _ rfl r rfl hmr ?_ ?_)|go_in)
  ·intro h0 hl0;rw[zpz hl0]at hpr;go_wp2_with fail;go_ret;exact⟨g',ρ',rfl,⟨_,_,_,hpr.mono (by omega)⟩,fun k hk=>(hnr k hk).1,hxr⟩
  ·intro x v w3 cnt' hxk hmx hlx hmr2 hlt hk hs hen;have hp3:=hpr.keep (hk.mono fun k hk _ e=>(hnr k hk).2 e);have hx3:Ext w w3:=Keep.ext (((hxr.keep (fun k=>k<w.heap.size)).trans (hk.mono fun k hk _=>by omega)).mono fun k _ hl=>hl);have hP:=HP.out.ext hx3;have hne:d.pend x≠[]:=(hP.has x hxk).1 (by rw[hmx];rfl);have hrx:=hP.rng x hne;have hpd:=hP.pend x hxk;rw[hmx]at hpd;simp only[Option.getD_some]at hpd;obtain⟨la,lc,rfl⟩:=hpd.slice;have hp0:zay d left x=[]:=by unfold zay;rw[if_pos hlx]
   have hm0:m' x=none:=by
    cases h:m' x with
    | none=>rfl
    | some u=>exact absurd hp0 ((hp3.has x hxk).1 (by rw[h];rfl))
   have hlong:=hP.long x;have c1:=hp3.c1;have hglt:=hp3.glt;have HPD:=hid hpd;have HP3:=hid hp3;have HMR2:=hid hmr2;have HMR0:=hid hmr;have HX3:=hid hx3;have HLT:=hid hlt;have HNE:=hid hne;have HRX:=hid hrx;have HP0:=hid hp0;have HM0:=hid hm0;have HNR:=hid hnr;have hr3:r<w3.heap.size:=by rw[hs];exact hmr.lt.1
   have HR3:=hid hr3;clear hpd hp3 hmr2 hmr hx3 hlt hne hrx hp0 hm0 hpr hP hk hnr hlx hmx hxr hs;go_wp2_with fail;have hxd:Ext w3 w3.drew:=by(exact Ext.xt)
   refine zr (fun w'=>w'.cell? ⟨g',1,none⟩=some (.map (some gm'))) [] (by kernel_rfl) (Ext.cellS hxd c1) (fun hS=>?_);(refine za 0 rfl ?_;(try simp only[Act.put,tq0,tq1,tq2,tq3,tq4,tq5]));(refine za 1 rfl ?_;(try simp only[Act.put,tq0,tq1,tq2,tq3,tq4,tq5]));(refine za 2 rfl ?_;(try simp only[Act.put,tq0,tq1,tq2,tq3,tq4,tq5]));(refine za 3 rfl ?_;(try simp only[Act.put,tq0,tq1,tq2,tq3,tq4,tq5]));refine ze (rs:=[4]) (by kernel_rfl) (by decide) (AllT.consS rfl (fun K hK=>?_) AllT.nil);go_simp;go_at_call 35;refine(zf1 _ _ _ (d.pend x) (HPD.out.ext hxd).rd (by omega)).mono ?_;rintro e w4 ⟨v4,rfl,ho4,hx4⟩;have hx34:Ext w3 w4:=hxd.trans hx4;have hm4:=(HP3.out.ext hx34).tight;obtain⟨w5,hrun,hm5,hg5,hs5⟩:=hm4.store Tryz.underlying63 (by unfold maxLen;decide) hxk v4;obtain⟨q1,q2,q3⟩:=HP3.out.put (n:=x) (l:=d.pend x) (N':=N+600) hxk HRX.out HNE.out (by omega) (by omega) hx34 HP0.out HM0.out (ho4.low (Nat.zero_le _)) (fun k hk=>by have:=(ho4.lt k hk).1;have:=hxd.size;omega) (hm5.mono (by omega)) hg5;have Q1:=hid q1;have Q2:=hid q2;have Q3:=hid q3;have HV4:=hid (fun k hk=>(ho4.lt k hk).1);have c1':=hx34.cellS c1;have hz4:=hx34.size;clear q1 q2 q3 hm4 hm5 ho4 hx4;have hrun:(Instr.mapUpdate 63 (.map (some gm')) (.int .i64 x) v4).run Tryz.prog w4 = .ok () w5:=hrun;(refine hK.out _ _ (c1') (fun hS=>?_);clear hK K);refine ze (rs:=[5]) (by kernel_rfl) (by decide) (AllT.consS rfl (fun K hK=>?_) AllT.nil);go_simp;have hk45:Keep (fun j=>j≠gm') w4 w5:=(zl hg5).mono fun j hj _ e=>hj (Option.some.inj e);have hg3:g'<w4.heap.size:=Nat.lt_of_lt_of_le HP3.out.glt hz4;(refine hK.out _ _ ((World.cell?_of_block (hk45.block g' HP3.out.ne hg3)).trans c1') (fun hS=>?_);clear hK K);refine zn (by kernel_rfl) (NoPanic.normal ?_) _;go_wp2_with fail;have hb3:=HMR2.out.lt;have hmr5:MapR kInt w5 gm r N m (fun z=>left z && !z.sameKey (.int .i64 x)) cnt':=
    HMR2.out.keep ((hk45.block gm (by omega) (by omega)).trans (Below.block hx34 gm hb3.2.1)) ((hk45.block r (by omega) (by omega)).trans (Below.block hx34 r hb3.1))
   refine⟨⟨_,cnt',upd m' x v4,rolW ρ' v4 x,hmr5,?_,fun k hk=>?_,?_⟩,?_⟩
   ·rw[zny];exact Q1.out
   ·rcases Q3.out k hk with h|h
    ·exact HNR.out k h
    ·have:=HR3.out;have:=HX3.out.size;omega
   ·exact Keep.ext (((((HX3.out.trans hx34)).keep (fun k=>k<w.heap.size)).trans (hk45.mono fun k hk _=>by omega)).mono fun k _ hl=>hl)
   ·rw[hmr5.left_eq,HMR0.out.left_eq];exact HLT.out
end
section
open Go.RowKit Go.Maps
section
variable {w W W':World}{q g:Nat}{ρ:Nat->Option DRol}{N:Nat}{d:Dv}{n:Nat}{bs:List Bat}{U:Nat->Prop}
theorem TOne (W:World) (S T1 T2:Nat->Prop) (va vb vc:Value) (fs xs ys:List Ent) (hf:RdS rEnt W S va fs) (ha:RdS rEnt W T1 vb xs) (hb:RdS rEnt W T2 vc ys) :
  Calls Tryz.prog 18 #[va,vb,vc] W fun e w'=>e = .returned (.bool (decide (fs=xs\/fs=ys)))/\Ext W w':=by
 have HF:=hid hf;have HA:=hid ha;have HB:=hid hb;clear hf ha hb;go_enter Tryz.func18,Tryz.ntmps18;go_wp2_with fail;refine(zcw W S T1 _ _ fs xs HF.out HA.out).mono ?_;rintro e w1 ⟨rfl,hx1⟩;have HX1:=hid hx1;clear hx1;obtain⟨x,hx⟩ : ∃ x,x=decide (fs=xs):=⟨_,rfl⟩
 rw[<-hx];have HX:=hid hx;clear hx;go_wp2_with fail;refine(zcw w1 S T2 _ _ fs ys (HF.out.ext HX1.out) (HB.out.ext HX1.out)).mono ?_;rintro e w2 ⟨rfl,hx2⟩;have HX2:=hid hx2;clear hx2;obtain⟨y,hy⟩ : ∃ y,y=decide (fs=ys):=⟨_,rfl⟩
 rw[<-hy];have HY:=hid hy;clear hy;cases x with
 | true=>
  go_wp2_with fail;go_ret;have h1:fs=xs:=by simpa using HX.out
  refine⟨?_,HX1.out.trans HX2.out⟩;rw[show decide (fs=xs\/fs=ys)=true by simp[h1]];rfl
 | false=>
  go_wp2_with fail;go_ret;have h1 : ¬ fs=xs:=by simpa using HX.out
  refine⟨?_,HX1.out.trans HX2.out⟩;rw[HY.out];congr 2
  simp[h1]
end
end
section
open Go.RowKit Go.Maps
theorem zjr (W:World) (v0:Value) (l:List Adg) (hl:RdS rAd W (fun k=>k<W.heap.size) v0 l) (v1:Value) (picks:List Int) (hp:RdS rI W (fun k=>k<W.heap.size) v1 picks) :
  Calls Tryz.prog 4 #[v0,v1] W fun e W'=>e = .returned (.bool true)/\Ext W W':=by
 obtain⟨va,vc,rfl,-,-⟩:=hl.slice;obtain⟨pa,pc,rfl,-,-⟩:=hp.slice;have HEV:=hid (ztm hl);have HL:=hid hl;have HPK:=hid hp;clear hl hp;go_enter Tryz.func4,Tryz.ntmps4;go_wp2_with fail;refine(ztu W).mono ?_;rintro e w1 ⟨rfl,hx1⟩;have HX1:=hid hx1;clear hx1;go_wp2_with fail;refine(zq9 w1).mono ?_;rintro e w2 ⟨g,q,ρ,d,n,U,rfl,hst,hc,hn⟩;have HST:=hid hst;have HC:=hid hc;have HX2:=hid (HX1.out.trans hst.dev.1.ex);clear hst hc;go_wp2_with fail;refine(TFew w2 _ va vc l (HL.out.ext HX2.out)).mono ?_;rintro e w2' ⟨rfl,rfl⟩;obtain⟨m,hm⟩ : ∃ m,m=l.take 4:=⟨_,rfl⟩
 have HM:=hid (show RdS rAd W (fun k=>k<W.heap.size) (.slice va m.length vc) m by
  have h1:=HL.out.head0 (min 4 l.length) (by omega);rw[hm,List.length_take];have e:l.take (min 4 l.length)=l.take 4:=by rw[List.take_eq_take_iff];omega
  rw[e]at h1;exact h1)
 have hm4:m.length<=4:=by rw[hm,List.length_take];omega
 have HGD:=hid (show ∀ i,GoodB (stB m i) from fun i=>zr4 (fun a ha=>HEV.out a (by rw[hm]at ha;exact List.mem_of_mem_take ha)) i);rw[<-hm];clear hm;have HD:=hid HST.out.dev;go_wp2_with fail;refine(zli w2 g ρ _ d HD.out.1.dv (by omega)).mono ?_;rintro e w3 ⟨gb,ρb,rfl,hdb,hnb,hx3⟩;have HDB:=hid hdb;have HNB:=hid hnb;have HX3:=hid hx3;clear hdb hnb hx3;go_wp2_with fail;refine(znc (HD.out.1.ext HX3.out).dv).mono ?_;rintro e w3' ⟨rfl,rfl⟩;go_wp2_with fail;have hW2:=HX2.out.size;have hUl:=HST.out.low;refine(TRun (HST.out.ext HX3.out) (by omega) (by omega) (fun k=>k<W.heap.size) va vc m hm4 (HM.out.ext (HX2.out.trans HX3.out)) (fun j hj _ h=>by have:=(hUl j h).1;have:=HX1.out.size;omega)).mono ?_;rintro e w4 ⟨k,v4,S4,ρ4,d4,n4,U4,hk4,rfl,hn4,hf4,ho4,hb4,hu4,hkp4,hr4,hm4',hl4,hi4,-⟩;obtain⟨hf4,rfl⟩:=hf4 HC.out.2.1;obtain⟨a4,c4,rfl⟩:=ho4.slice;rw[kq]at ho4 hb4 ⊢;have HO4:=hid ho4;have HB4:=hid hb4;have HKP4:=hid hkp4;have HM4:=hid hm4';clear ho4 hb4 hu4 hkp4 hr4 hm4' hl4 hi4 hf4 hUl;go_wp2_with fail;refine(znc HM4.out.dv).mono ?_;rintro e w4' ⟨rfl,rfl⟩;have hdev:=HD.out;have HDV:=hid (show qk d/\d.safe.length=64/\FsImg n (curF d) (filB []) from⟨hdev.2.2.1,hdev.2.2.2.1,hdev.2.2.2.2.2 _ (zhv d)⟩);have HDB4:=hid (show DvAt w4 gb ρb (4000+1000) d from HDB.out.keep (HKP4.out.mono fun j hj _ h=>by
  have h1:=HNB.out j hj;have h2:=(HST.out.low j h).2;omega))
 have HX4:=hid (show Ext W w4 from by
  have h1:Keep (fun j=>j<W.heap.size) W w4:=((HX2.out.trans HX3.out).keep _).trans (HKP4.out.mono fun j hj _ h=>by
   have h1:=(HST.out.low j h).1;have h2:=HX1.out.size;omega)
  exact Keep.ext (h1.mono fun j _ hl=>hl))
 have HWH:=hid (RdS.mono HO4.out.rd (S':=fun k=>k<w4.heap.size) fun k hk hz=>hz);clear hdev hW2 HKP4;go_wp2_with fail;obtain⟨op,hop⟩ : ∃ op,op=wrap64 (d4.ops-d.ops):=⟨_,rfl⟩
 rw[<-hop];clear hop;go_loopw [13] (fun u13 wr=>∃ k:Nat,k<=400/\u13 = .int .i64 (k:Int)/\Ext w4 wr) (fun u13 _=>401-(intOf u13).toNat);case atStart=>exact⟨0,by omega,rfl,Ext.refl _⟩
 case round=>
  obtain⟨k,hk,rfl,hxr⟩:=hrel;have HXR:=hid hxr;clear hxr;by_cases hgo:(k:Int)<=op/\k<400
  ·obtain⟨h1,h2⟩:=hgo;have h3:(k:Int)<400:=by omega
   go_wp2_with fail;refine(zli wr gb ρb _ d (HDB4.out.ext HXR.out) (by omega)).mono ?_;rintro e r1 ⟨gc,ρc,rfl,hdc,hnc,hx1⟩;have HMC:=hid (show Mine wr r1 gc ρc 6000 d from⟨hdc,hnc,hx1⟩);clear hdc hnc hx1;go_wp2_with fail;refine(zhe HMC.out (by omega) HC.out HDV.out.1 HDV.out.2.1 (n:=n) (by omega) [] GoodB.nil (by simp) HDV.out.2.2).mono ?_;rintro e r2 ⟨qt,ρt,dt,nt,Ut,rfl,hnt,hstt,hct,hrt,hkt,hut⟩;have HSTT:=hid hstt;clear hstt hct hrt hkt hut;go_wp2_with fail;have hdt:=HSTT.out.dev;refine(zxn hdt.1 hdt.2.1 k (by omega)).mono ?_;rintro e r3 ⟨rfl,df,hmf,huf,hsf,hkf⟩;have HST3:=hid (HSTT.out.fuse hmf huf hsf hkf);clear hmf huf hsf hkf hdt;have hx3:=HST3.out.dev.1.ex;have hUl3:=HST3.out.low;have hWr:W.heap.size<=wr.heap.size:=by
    have h1:=HX4.out.size;have h2:=HXR.out.size;omega
   have HWR:=hid hWr;have HTR:=hid (TRun HST3.out (by omega) (by omega) (fun k=>k<W.heap.size) va vc m hm4 (HM.out.ext ((HX4.out.trans HXR.out).trans hx3)) (fun j hj _ h=>by have:=(hUl3 j h).1;omega));clear hx3 hUl3 hWr;go_wp2_with fail;refine HTR.out.mono ?_;rintro e r4 ⟨kk,v5,S5,ρ5,d5,n5,U5,hkk,rfl,hn5,-,ho5,hb5,hu5,hkp5,hr5,hm5,hl5,hi5,-⟩;obtain⟨a5,c5,rfl⟩:=ho5.slice;rw[kq]at ho5 hb5 ⊢;have HCR:=hid (zrd hm5 (by omega) hl5 (fun s=>FsImg n5 s (filB (stB m kk))\/(kk<m.length/\FsImg n5 s (filB (stB m (kk+1))))) hi5 (fun k=>k<W.heap.size) _ picks (HPK.out.ext ((HX4.out.trans HXR.out).trans hm5.ex)) (fun j hj _=>hm5.old j (by have:=HWR.out;omega)));clear ho5 hb5 hu5 hkp5 hr5 hm5 hl5 hi5 HTR;go_wp2_with fail;refine HCR.out.mono ?_;rintro e r5 ⟨rfl,d6,hm6,hc6,hs6,hl6,hi6,hk6⟩;obtain⟨bs',hbs,himg⟩ : ∃ bs',(bs'=stB m kk\/(kk<m.length/\bs'=stB m (kk+1)))/\FsImg n5 (curF d6) (filB bs'):=by
    rcases hi6 with h|⟨h1,h2⟩
    ·exact⟨_,.inl rfl,h⟩
    ·exact⟨_,.inr ⟨h1,rfl⟩,h2⟩
   have hbl:bs'.length<=4:=by
    rcases hbs with h|⟨h0,h⟩
    ·rw[h];have:=zfe m kk;omega
    ·rw[h];have:=zfe m (kk+1);omega
   have hbg:GoodB bs':=by
    rcases hbs with h|⟨h0,h⟩
    ·rw[h];exact HGD.out _
    ·rw[h];exact HGD.out _
   have HOP:=hid (zhe hm6 (by omega) hc6 hs6 hl6 (n:=n5) (by omega) bs' hbg hbl himg);have HBS:=hid hbs;have HBL:=hid hbl;clear hm6 hc6 hs6 hl6 hi6 hk6 hbs himg hbl hbg HCR;go_wp2_with fail;refine HOP.out.mono ?_;rintro e r6 ⟨qu,ρ6,d7,n7,U7,rfl,hn7,hst7,hc7,hr7,hk7,hu7⟩;have HST7:=hid hst7;clear hst7 hc7 hr7 hk7 hu7 HOP;have hw1:IntKind.i64.wrap (((kk+1:Nat):Int)-1)=(kk:Int):=by rw[IntKind.wrap_i64] <;> omega
   go_wp2_with fail;have HTL:=hid (TLog HST7.out HBL.out);refine HTL.out.mono ?_;rintro e r7 ⟨v8,S8,rfl,ho8,hs8,hx8⟩;obtain⟨a8,c8,rfl⟩:=ho8.slice;have HO8:=hid ho8;have HX8:=hid hx8;obtain⟨m8,hm8⟩ : ∃ m8,m8=(ixB bs').all.length:=⟨_,rfl⟩
   rw[<-hm8]at HO8 ⊢;clear ho8 hs8 hx8 hm8 HTL;have hx47:Ext w4 r7:=HXR.out.trans (HST7.out.dev.1.ex.trans HX8.out);obtain⟨jj,hjj⟩ : ∃ jj:Nat,jj=min (kk+1) m.length:=⟨_,rfl⟩
   have hml:(vt m (m.length+1)).length=m.length+1:=kq _ _;obtain⟨gw,ow,cw,u1,e1,-,-,c1,hu1⟩:=(HWH.out.ext hx47).atEs kk (by rw[hml];omega);obtain⟨gw',ow',cw',u2,e2,-,-,c2,hu2⟩:=(HWH.out.ext hx47).atEs jj (by rw[hml];omega);simp only[Value.slice.injEq,hml,true_and]at e1;obtain⟨rfl,rfl⟩:=e1;simp only[Value.slice.injEq,Option.some.injEq,Addr.mk.injEq]at e2;obtain⟨⟨rfl,rfl,-⟩,-,-⟩:=e2;rw[zio m (m.length+1) kk (by omega)]at hu1;rw[zio m (m.length+1) jj (by omega)]at hu2;obtain⟨b1,k1,rfl,-,-⟩:=hu1.slice;obtain⟨b2,k2,rfl,-,-⟩:=hu2.slice;have HU1:=hid hu1;have HU2:=hid hu2;have HJJ:=hid hjj;obtain⟨n1,hn1⟩ : ∃ n1,n1=(ixB (stB m kk)).all.length:=⟨_,rfl⟩
   obtain⟨n2,hn2⟩ : ∃ n2,n2=(ixB (stB m jj)).all.length:=⟨_,rfl⟩
   rw[<-hn1]at c1 HU1;rw[<-hn2]at c2 HU2;have hw2:IntKind.i64.wrap ((kk:Int)+1)=(kk:Int)+1:=by rw[IntKind.wrap_i64] <;> omega
   have hw3:IntKind.i64.wrap (((m.length+1:Nat):Int)-1)=(m.length:Int):=by rw[IntKind.wrap_i64] <;> omega
   have hw4:IntKind.i64.wrap ((m.length:Int)+1-1)=(m.length:Int):=by rw[IntKind.wrap_i64] <;> omega
   have hw5:IntKind.i64.wrap (m.length:Int)=(m.length:Int):=by rw[IntKind.wrap_i64] <;> omega
   have hmn:min ((kk:Int)+1) (m.length:Int)=(jj:Int):=by omega
   have hi1:(0:Int)<=(kk:Int):=by omega
   have hi2:(kk:Int)<((m.length+1:Nat):Int):=by omega
   have hi3:(0:Int)<=(jj:Int):=by omega
   have hi4:(jj:Int)<((m.length+1:Nat):Int):=by omega
   have hi5:(kk:Int)<(m.length:Int)+1:=by omega
   have hi6:(jj:Int)<(m.length:Int)+1:=by omega
   clear hu1 hu2 hn1 hn2 hml hjj;go_wp2_with fail;have hxd:Ext r7 r7.drew:=(Ext.refl _).drew;have HXD:=hid hxd;have HC12:=hid (fun (w':World) (hx:Ext r7 w')=>show w'.cell? ⟨gw,ow+kk,none⟩=some (.slice b1 n1 k1)/\w'.cell? ⟨gw,ow+jj,none⟩=some (.slice b2 n2 k2) from⟨Ext.cellS hx c1,Ext.cellS hx c2⟩);refine zr (fun w'=>w'.cell? ⟨gw,ow+kk,none⟩=some (.slice b1 n1 k1)/\w'.cell? ⟨gw,ow+jj,none⟩=some (.slice b2 n2 k2)) [] (by kernel_rfl) (HC12.out _ hxd) (fun hS=>?_);clear c1 c2 hxd;(refine za 0 rfl ?_;(try simp only[Act.put,tq0,tq1,tq2,tq3,tq4,tq5]));(refine za 1 rfl ?_;(try simp only[Act.put,tq0,tq1,tq2,tq3,tq4,tq5]));(refine za 2 rfl ?_;(try simp only[Act.put,tq0,tq1,tq2,tq3,tq4,tq5]));(refine za 3 rfl ?_;(try simp only[Act.put,tq0,tq1,tq2,tq3,tq4,tq5]));(refine za 4 rfl ?_;(try simp only[Act.put,tq0,tq1,tq2,tq3,tq4,tq5]));(refine za 5 rfl ?_;(try simp only[Act.put,tq0,tq1,tq2,tq3,tq4,tq5]));(refine za 6 rfl ?_;(try simp only[Act.put,tq0,tq1,tq2,tq3,tq4,tq5]));(refine za 7 rfl ?_;(try simp only[Act.put,tq0,tq1,tq2,tq3,tq4,tq5]));(refine za 8 rfl ?_;(try simp only[Act.put,tq0,tq1,tq2,tq3,tq4,tq5]));(refine za 9 rfl ?_;(try simp only[Act.put,tq0,tq1,tq2,tq3,tq4,tq5]));(refine za 10 rfl ?_;(try simp only[Act.put,tq0,tq1,tq2,tq3,tq4,tq5]));(refine za 11 rfl ?_;(try simp only[Act.put,tq0,tq1,tq2,tq3,tq4,tq5]));(refine za 12 rfl ?_;(try simp only[Act.put,tq0,tq1,tq2,tq3,tq4,tq5]));(refine za 13 rfl ?_;(try simp only[Act.put,tq0,tq1,tq2,tq3,tq4,tq5]));refine ze (rs:=[14]) (by kernel_rfl) (by decide) (AllT.consS rfl (fun K hK=>?_) AllT.nil);go_simp;have hfe:RdS rEnt r7.drew (fun j=>S8 j\/(Value.slice a8 m8 c8).ownBlock=some j) (.slice a8 m8 c8) (ixB bs').all:=(RdS.weak zds (fun h=>zdr h) HO8.out.rd).ext HXD.out;refine(TOne r7.drew _ _ _ _ _ _ (ixB bs').all _ _ hfe (HU1.out.ext HXD.out) (HU2.out.ext HXD.out)).mono ?_;rintro e r8 ⟨rfl,hx8⟩;have hdec:decide ((ixB bs').all=(ixB (stB m kk)).all\/(ixB bs').all=(ixB (stB m jj)).all)=true:=by
    rw[decide_eq_true_eq];rcases HBS.out with h|⟨h0,h⟩
    ·exact .inl (by rw[h])
    ·refine .inr ?_;rw[h,HJJ.out,show min (kk+1) m.length=kk+1 by omega]
   rw[hdec];have HX9:=hid (HXD.out.trans hx8);clear hfe hdec hx8;(refine hK.out _ _ (HC12.out _ HX9.out) (fun hS=>?_);clear hK K);refine ze (rs:=[15]) (by kernel_rfl) (by decide) (AllT.consS rfl (fun K hK=>?_) AllT.nil);go_simp;(refine hK.out _ _ (hS) (fun hS=>?_);clear hK K);refine zn (by kernel_rfl) (NoPanic.normal ?_) _;clear hw1 hw2 hw3 hw4 hw5 hmn hi1 hi2 hi3 hi4 hi5 hi6 hS;go_wp2_with fail;go_roundw;case measure=>simp[intOf];omega
   case rel=>exact⟨k+1,by omega,by go_num,HXR.out.trans (HST7.out.dev.1.ex.trans (HX8.out.trans HX9.out))⟩
  ·by_cases h1:(k:Int)<=op
   ·have h3 : ¬ (k:Int)<400:=by omega
    go_wp2_with fail;go_ret;exact⟨rfl,HX4.out.trans HXR.out⟩
   ·go_wp2_with fail;go_ret;exact⟨rfl,HX4.out.trans HXR.out⟩
end
end Go.Proofs.YtnadlnmclameiaaGreatDoor
