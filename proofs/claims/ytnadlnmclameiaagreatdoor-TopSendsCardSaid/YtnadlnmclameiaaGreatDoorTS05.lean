/- part 5 -/
import Derived.Test.YtnadlnmclameiaaGreatDoorTS04
import Derived.Deep.QuietTactic
import Derived.BigQuiet
set_option maxRecDepth 100000
set_option maxHeartbeats 8000000
set_option linter.all false
namespace Go.Proofs.YtnadlnmclameiaaGreatDoor
section
open Go.RowKit Go.Maps
section
variable {ι:Nat->Option CRol}{gc gm q:Nat}{f:Nat->Bk}{it:Nat->Nat}{vs:Nat->Value}
theorem CaP.c1 {w:World} (h:CaP w ι gc gm q f it vs) {k:Nat} (hk:k<q):w.cell? ⟨it k,1,none⟩=some (vs k):=by
 obtain⟨po,pn,h1,h2,h3⟩:=h.items k hk;exact(cr _ h3)
theorem zt7 (w:World) (h:CaP w ι gc gm q f it vs) (k:Nat) (hk:k<q) :
  Calls Tryz.prog 142 #[.pointer (some ⟨gc,0,none⟩),.int .i64 (16+k)] w fun e w'=>e = .returned (.tuple #[vs k,.bool true])/\CaP w' ι gc gm q f it vs/\CaStep ι w w':=by
 have H:=hid h;clear h;go_enter Tryz.func142,Tryz.ntmps142;go_wp2_with fail;refine(zku w H.out k hk).mono ?_;rintro e w1 ⟨rfl,h1,s1⟩;have c1:=h1.c1 hk;have H1:=hid h1;have S1:=hid s1;clear h1 s1;generalize it k=i at c1 ⊢;generalize hv:vs k=v at c1 ⊢;have HV:=hid hv;clear hv;go_wp2_with fail;refine bodyPost_ret (v:=.tuple #[v,.bool true]) (by simp[results,Tryz.results142,go_sem]) rfl ?_;exact⟨by rw[HV.out],H1.out,S1.out⟩
theorem zrp (w:World) (h:CaP w ι gc gm q f it vs) (n:Int) (hn : -9223372036854775808<=n/\n<=9223372036854775807) (hno : ¬ (16<=n/\n<16+(q:Int))) :
  Calls Tryz.prog 142 #[.pointer (some ⟨gc,0,none⟩),.int .i64 n] w fun e w'=>e = .returned (.tuple #[.slice none 0 0,.bool false])/\w=w':=by
 have H:=hid h;have HN:=hid hn;have HNO:=hid hno;clear h hn hno;go_enter Tryz.func142,Tryz.ntmps142;go_wp2_with fail;refine(zit w H.out n HN.out HNO.out).mono ?_;rintro e w1 ⟨rfl,rfl⟩;go_wp2_with fail;refine bodyPost_ret (v:=.tuple #[.slice none 0 0,.bool false]) (by simp[results,Tryz.results142,go_sem]) rfl ?_;exact⟨rfl,rfl⟩
def rolV (ι:Nat->Option CRol) (v:Value):Nat->Option CRol:=fun b=>if v.ownBlock=some b then some .val else ι b
theorem zj4 {v:Value} (hv : ∀ b,v.ownBlock=some b->ι b=none) {b:Nat}{r:CRol} (h:ι b=some r):rolV ι v b=some r:=by
 unfold rolV;rw[if_neg fun e=>by rw[hv b e]at h;cases h];exact h
def updN {α:Type} (f:Nat->α) (k:Nat) (x:α):Nat->α:=fun j=>if j=k then x else f j
theorem kh {α:Type} (f:Nat->α) (k:Nat) (x:α):updN f k x k=x:=if_pos rfl
theorem xq {α:Type} (f:Nat->α) {k j:Nat} (x:α) (h:j≠k):updN f k x j=f j:=if_neg h
theorem CaP.setVal {w:World} (h:CaP w ι gc gm q f it vs) {k:Nat} (hk:k<q) {v:Value}{b:Bk} (hv:RdB w v b) (hb : ∀ j,v.ownBlock=some j->ι j=none/\j<w.heap.size) :
  CaP ((w.setCell ⟨it k,1,none⟩ v).setCell ⟨it k,2,none⟩ (.bool false)) (rolV ι v) gc gm q (updN f k b) it (updN vs k v)/\Keep (fun j=>ι j=none) w ((w.setCell ⟨it k,1,none⟩ v).setCell ⟨it k,2,none⟩ (.bool false)):=by
 have hi:=h.ri k hk;have hold : ∀ {j:Nat}{r:CRol},ι j=some r->rolV ι v j=some r:=fun {j r} hj=>zj4 (fun b e=>(hb b e).1) hj;have hK:Keep (fun j=>j≠it k) w ((w.setCell ⟨it k,1,none⟩ v).setCell ⟨it k,2,none⟩ (.bool false)):=((Keep.refl _ _).setCell (by simp) _).setCell (by simp) _;have hP : ∀ p,ItP ι p->ItP (rolV ι v) p:=fun p hp=>by
  rcases hp with rfl|⟨i,j,rfl,hj⟩
  ·exact .inl rfl
  ·exact .inr ⟨i,j,rfl,hold hj⟩
 have hne : ∀ {j:Nat}{r:CRol},ι j=some r->r≠ .item k->j≠it k:=fun {j r} hj hr e=>by subst e;rw[hi]at hj;exact hr (Option.some.inj hj).symm
 refine⟨{ head:= ?_,rh:=hold h.rh,map:=h.map.kept hK (hne h.rm (by simp)),rm:=hold h.rm,items:=fun j hj=>?_,ri:=fun j hj=>hold (h.ri j hj),own:=fun i j hj=>?_,vals:=fun j hj=>?_,lt:=fun j hj=>?_,few:=h.few },hK.mono fun j hj _ e=>by subst e;rw[hi]at hj;cases hj⟩
 ·obtain⟨po,pf,h1,h2,h3⟩:=h.head;exact⟨po,pf,hP _ h1,hP _ h2,(hK.block gc (hne h.rh (by simp)) (h.lt gc (by rw[h.rh];simp))).trans h3⟩
 ·obtain⟨po,pn,h1,h2,h3⟩:=h.items j hj;by_cases e:j=k
  ·subst e;rw[kh];exact⟨po,pn,hP _ h1,hP _ h2,(zw (o:=2) (zw (o:=1) h3 v) (.bool false)).trans rfl⟩
  ·rw[xq _ _ e];exact⟨po,pn,hP _ h1,hP _ h2,(hK.block _ (hne (h.ri j hj) (by simp;exact e)) (blt h3)).trans h3⟩
 ·unfold rolV at hj;split at hj
  ·cases hj
  ·exact h.own i j hj
 ·by_cases e:j=k
  ·subst e;rw[kh,kh];refine⟨Rd.carry0 hv hK.size fun _ x hx hl=>hK.block x (fun e=>?_) hl,fun x hx=>if_pos hx⟩;have:=(hb x hx).1;rw[e,hi]at this;cases this
  ·rw[xq _ _ e,xq _ _ e];obtain⟨h1,h2⟩:=h.vals j hj;exact⟨Rd.carry0 h1 hK.size fun _ x hx hl=>hK.block x (hne (h2 x hx) (by simp)) hl,fun x hx=>hold (h2 x hx)⟩
 ·have hs:((w.setCell ⟨it k,1,none⟩ v).setCell ⟨it k,2,none⟩ (.bool false)).heap.size=w.heap.size:=by simp[World.setCell]
  rw[hs];unfold rolV at hj;split at hj
  ·rename_i e;exact(hb j e).2
  ·exact h.lt j hj
theorem zt6 (w:World) (h:CaP w ι gc gm q f it vs) (k:Nat) (hk:k<q) (va:Option Addr) (vn vc:Nat) (b:Bk) (hv:RdB w (.slice va vn vc) b) (hb : ∀ j,(Value.slice va vn vc).ownBlock=some j->ι j=none/\j<w.heap.size) :
  Calls Tryz.prog 143 #[.pointer (some ⟨gc,0,none⟩),.int .i64 (16+k),.slice va vn vc,.bool false] w fun e w'=>(∃ u,e = .returned u)/\CaP w' (rolV ι (.slice va vn vc)) gc gm q (updN f k b) it (updN vs k (.slice va vn vc))/\Keep (fun j=>ι j=none) w w':=by
 have H:=hid h;have HV:=hid hv;have HB:=hid hb;clear h hv hb;go_enter Tryz.func143,Tryz.ntmps143;go_wp2_with fail;obtain⟨g0,hg0⟩ : ∃ g0,g0=w.heap.size:=⟨_,rfl⟩
 have hx0:Ext w (w.alloc (.cells #[.int .i64 0,.slice none 0 0,.bool false,.int .i64 0,.pointer none,.pointer none] 264)):=(Ext.refl w).alloc _;have hr0:(w.alloc (.cells #[.int .i64 0,.slice none 0 0,.bool false,.int .i64 0,.pointer none,.pointer none] 264)).heap[g0]? = some (.cells #[.int .i64 0,.slice none 0 0,.bool false,.int .i64 0,.pointer none,.pointer none] 264 (0,0)):=by rw[hg0];exact heap_alloc_new _ _
 rw[<-hg0];generalize (w.alloc (.cells #[.int .i64 0,.slice none 0 0,.bool false,.int .i64 0,.pointer none,.pointer none] 264))=w1 at hx0 hr0 ⊢;have hn0:ι g0=none:=by
  by_cases e:ι g0=none
  ·exact e
  ·have:=H.out.lt g0 e;omega
 have HG0:=hid hg0;clear hg0;refine(zku w1 (H.out.ext hx0) k hk).mono ?_;rintro e w2 ⟨rfl,h2,s2⟩;have hr2:=(s2.1.block g0 hn0 (blt hr0)).trans hr0;have hv2:RdB w2 (.slice va vn vc) b:=(HV.out.ext hx0).carry0 s2.1.size fun _ x hx hl=>s2.1.block x (HB.out x hx).1 hl;have hsv:=h2.setVal hk hv2 fun j hj=>⟨(HB.out j hj).1,Nat.lt_of_lt_of_le (HB.out j hj).2 (Nat.le_trans hx0.size s2.1.size)⟩
 obtain⟨po,pn,-,-,h3⟩:=h2.items k hk;have i1:=(cr 1 h3)
 have i2:=(cr 2 h3)
 have i3:=zg h3 1;have i4:=zg h3 2;have o0:=(cr 0 hr2)
 have o1:=(cr 1 hr2)
 have hne:it k≠g0:=fun e=>by have:=h2.ri k hk;rw[e,hn0]at this;cases this
 have hne':g0≠it k:=fun e=>hne e.symm;have HSV:=hid hsv;have HK2:=hid ((hx0.keep (fun j=>ι j=none)).trans s2.1);generalize it k=i at i1 i2 i3 i4 hne hne' HSV ⊢;clear h2 s2 hr2 hv2 hsv h3 hx0 hr0;go_wp2_with fail;go_quiet (fail);go_wp2_with fail;refine bodyPost_ret (v:=.tuple #[.int .i64 0,.slice none 0 0,.bool false,.bool false,.int .i64 0]) (by simp[results,Tryz.results143,go_sem]) rfl ?_;have hxq : ∀ W:World,Ext W (W.drewN nq):=fun W=>(Ext.refl W).drewN nq;exact⟨⟨_,rfl⟩,HSV.out.1.ext (hxq _),(HK2.out.trans HSV.out.2).trans ((hxq _).keep _)⟩
theorem CaP.add {w W1 W2:World} (h:CaP w ι gc gm q f it vs) (hq:q<16) {v:Value}{b:Bk} (hv:RdB w v b) (hb : ∀ j,v.ownBlock=some j->ι j=none/\j<w.heap.size) {g1:Nat} (hg1:g1=w.heap.size)
  (hW1:W1=w.alloc (.cells #[.int .i64 (16+q),v,.bool false,.int .i64 0,.pointer none,.pointer none] 264))
  (hm:MapG kInt W2 gm (q+1) (upd (byM q it) (16+(q:Int)) (.pointer (some ⟨g1,0,none⟩)))) (hgr:W1.grownBy W2 (some gm)) (hsz:W2.heap.size=W1.heap.size) :
  CaP W2 (fun j=>if j=g1 then some (.item q) else rolV ι v j) gc gm (q+1) (updN f q b) (updN it q g1) (updN vs q v)/\Keep (fun j=>ι j=none) w W2:=by
 have hold : ∀ {j:Nat}{r:CRol},ι j=some r->(if j=g1 then some (CRol.item q) else rolV ι v j)=some r:=fun {j r} hj=>by
  have:=h.lt j (by rw[hj];simp);rw[if_neg (by omega)];exact zj4 (fun b e=>(hb b e).1) hj
 have hx1:Ext w W1:=by rw[hW1];exact(Ext.refl w).alloc _
 have hK2:Keep (fun j=>j≠gm) W1 W2:=(zl hgr).mono fun j hj _ e=>hj (Option.some.inj e);have hK:Keep (fun j=>j≠gm) w W2:=(hx1.keep _).trans hK2;have hP : ∀ p,ItP ι p->ItP (fun j=>if j=g1 then some (CRol.item q) else rolV ι v j) p:=fun p hp=>by
  rcases hp with rfl|⟨i,j,rfl,hj⟩
  ·exact .inl rfl
  ·exact .inr ⟨i,j,rfl,hold hj⟩
 have hne : ∀ {j:Nat}{r:CRol},ι j=some r->r≠ .cmap->j≠gm:=fun {j r} hj hr e=>by subst e;rw[h.rm]at hj;exact hr (Option.some.inj hj).symm
 have hgm:=h.lt gm (by rw[h.rm];simp);have hnew:W2.heap[g1]? = some (.cells #[.int .i64 (16+q),v,.bool false,.int .i64 0,.pointer none,.pointer none] 264 (0,0)):=by
  have h1:W1.heap[g1]? = some (.cells #[.int .i64 (16+q),v,.bool false,.int .i64 0,.pointer none,.pointer none] 264 (0,0)):=by rw[hW1,hg1];exact heap_alloc_new _ _
  exact(hK2.block g1 (by omega) (blt h1)).trans h1
 have hmap:upd (byM q it) (16+(q:Int)) (.pointer (some ⟨g1,0,none⟩))=byM (q+1) (updN it q g1):=by
  funext n;unfold upd;by_cases e:n=16+(q:Int)
  ·rw[if_pos e,e,zqx (by omega),kh]
  ·rw[if_neg e];unfold byM;by_cases h1:16<=n/\n<16+(q:Int)
   ·rw[if_pos h1,if_pos ⟨h1.1,by omega⟩,xq _ _ (by omega)]
   ·rw[if_neg h1,if_neg (by omega)]
 refine⟨{ head:= ?_,rh:=hold h.rh,map:=by rw[<-hmap];exact hm,rm:=hold h.rm,items:=fun j hj=>?_,ri:=fun j hj=>?_,own:=fun i j hj=>?_,vals:=fun j hj=>?_,lt:=fun j hj=>?_,few:=by omega },hK.mono fun j hj _ e=>by subst e;rw[h.rm]at hj;cases hj⟩
 ·obtain⟨po,pf,h1,h2,h3⟩:=h.head;exact⟨po,pf,hP _ h1,hP _ h2,(hK.block gc (hne h.rh (by simp)) (h.lt gc (by rw[h.rh];simp))).trans h3⟩
 ·by_cases e:j=q
  ·subst e;rw[kh,kh];exact⟨none,none,.inl rfl,.inl rfl,hnew⟩
  ·rw[xq _ _ e,xq _ _ e];obtain⟨po,pn,h1,h2,h3⟩:=h.items j (by omega);exact⟨po,pn,hP _ h1,hP _ h2,(hK.block _ (hne (h.ri j (by omega)) (by simp)) (blt h3)).trans h3⟩
 ·by_cases e:j=q
  ·subst e;rw[kh,if_pos rfl]
  ·rw[xq _ _ e];exact hold (h.ri j (by omega))
 ·by_cases e:i=g1
  ·rw[if_pos e]at hj;simp only[Option.some.injEq,CRol.item.injEq]at hj;subst hj;exact⟨by omega,by rw[kh];exact e⟩
  ·rw[if_neg e]at hj;unfold rolV at hj;split at hj
   ·cases hj
   ·obtain⟨h1,h2⟩:=h.own i j hj;exact⟨by omega,by rw[xq _ _ (by omega)];exact h2⟩
 ·by_cases e:j=q
  ·subst e;rw[kh,kh];refine⟨Rd.carry0 hv hK.size fun _ x hx hl=>hK.block x (fun e=>?_) hl,fun x hx=>?_⟩
   ·have:=(hb x hx).1;rw[e,h.rm]at this;cases this
   ·have:=(hb x hx).2;rw[if_neg (by omega)];exact if_pos hx
  ·rw[xq _ _ e,xq _ _ e];obtain⟨h1,h2⟩:=h.vals j (by omega);exact⟨Rd.carry0 h1 hK.size fun _ x hx hl=>hK.block x (hne (h2 x hx) (by simp)) hl,fun x hx=>hold (h2 x hx)⟩
 ·have hs1:W1.heap.size=w.heap.size+1:=by rw[hW1];simp
  rw[hsz,hs1];by_cases e:j=g1
  ·omega
  ·rw[if_neg e]at hj;unfold rolV at hj;split at hj
   ·rename_i e;have:=(hb j e).2;omega
   ·have:=h.lt j hj;omega
theorem zro (w:World) (h:CaP w ι gc gm q f it vs) (hq:q<16) (va:Option Addr) (vn vc:Nat) (b:Bk) (hv:RdB w (.slice va vn vc) b) (hb : ∀ j,(Value.slice va vn vc).ownBlock=some j->ι j=none/\j<w.heap.size) :
  Calls Tryz.prog 143 #[.pointer (some ⟨gc,0,none⟩),.int .i64 (16+q),.slice va vn vc,.bool false] w fun e w'=>(∃ u,e = .returned u)/\
   (∃ ι' it' vs',CaP w' ι' gc gm (q+1) (updN f q b) it' vs'/\∀ j,ι' j≠none->ι j≠none\/(Value.slice va vn vc).ownBlock=some j\/w.heap.size<=j)/\Keep (fun j=>ι j=none/\¬ (Value.slice va vn vc).ownBlock=some j) w w':=by
 have H:=hid h;have HV:=hid hv;have HB:=hid hb;clear h hv hb;go_enter Tryz.func143,Tryz.ntmps143;go_wp2_with fail;obtain⟨g0,hg0⟩ : ∃ g0,g0=w.heap.size:=⟨_,rfl⟩
 have hx0:Ext w (w.alloc (.cells #[.int .i64 0,.slice none 0 0,.bool false,.int .i64 0,.pointer none,.pointer none] 264)):=(Ext.refl w).alloc _;have hr0:(w.alloc (.cells #[.int .i64 0,.slice none 0 0,.bool false,.int .i64 0,.pointer none,.pointer none] 264)).heap[g0]? = some (.cells #[.int .i64 0,.slice none 0 0,.bool false,.int .i64 0,.pointer none,.pointer none] 264 (0,0)):=by rw[hg0];exact heap_alloc_new _ _
 rw[<-hg0];generalize (w.alloc (.cells #[.int .i64 0,.slice none 0 0,.bool false,.int .i64 0,.pointer none,.pointer none] 264))=w1 at hx0 hr0 ⊢;have hn0:ι g0=none:=by
  by_cases e:ι g0=none
  ·exact e
  ·have:=H.out.lt g0 e;omega
 have HG0:=hid hg0;clear hg0;refine(zit w1 (H.out.ext hx0) (16+q) (by omega) (by omega)).mono ?_;rintro e w2 ⟨rfl,rfl⟩;have h1:=H.out.ext hx0;obtain⟨pa,pb,hd⟩:=h1.hd;have c0:=hd.c0;have c1:=hd.c1;have H1:=hid h1;obtain⟨D,hD1,-⟩:=h1.map;have hlen : ∀ n ty,(Builtin.len_ #[195] ty #[.map (some gm)]).run Tryz.prog (w1.drewN n) = .ok (.int .i64 (Go.Maps.size D)) (w1.drewN n):=fun n ty=>by
  have h2:MapG kInt (w1.drewN n) gm q (byM q it):=H1.out.map.ext ((Ext.refl w1).drewN n);exact World.ownsMap.len (by
   obtain⟨es,clock,k1,k2⟩:=hD1;exact⟨es,clock,k1,k2⟩) Tryz.underlying195 ty
 have hsl:=hD1.size_le;generalize Go.Maps.size D=sz at hlen hsl;have hb16:((sz:Int) == 16)=false:=by
  rw[beq_eq_false_iff_ne];omega
 have HX0:=hid hx0;have HR0:=hid hr0;clear hd hD1 hx0 hr0 h1;go_wp2_with fail;go_quiet (fail);obtain⟨W,hW⟩ : ∃ W,W=w1.drewN nq:=⟨_,rfl⟩
 have hxW:Ext w1 W:=by rw[hW];exact(Ext.refl w1).drewN nq
 rw[<-hW];have hcW:=H1.out.ext hxW;obtain⟨pa,pb,hd⟩:=hcW.hd;have d1:=hd.c1;have hgc:=hcW.lt gc (by rw[hcW.rh];simp);have hgm:=hcW.lt gm (by rw[hcW.rm];simp);have n1 : ¬ gc=W.heap.size:=by omega
 have n2 : ¬ W.heap.size=gc:=by omega
 have hvW:=(HV.out.ext HX0.out).ext hxW;have hzW:=hxW.size;have hbW : ∀ j,(Value.slice va vn vc).ownBlock=some j->ι j=none/\j<W.heap.size:=fun j hj=>⟨(HB.out j hj).1,Nat.lt_of_lt_of_le (HB.out j hj).2 (Nat.le_trans HX0.out.size hzW)⟩
 obtain⟨W1,hW1⟩ : ∃ W1,W1=W.alloc (.cells #[.int .i64 (16+q),.slice va vn vc,.bool false,.int .i64 0,.pointer none,.pointer none] 264):=⟨_,rfl⟩
 have hxW1:Ext W W1:=by rw[hW1];exact(Ext.refl W).alloc _
 obtain⟨W2,hrun,hm2,hg2,hs2⟩:=(hcW.map.ext hxW1).store (t:=195) Tryz.underlying195 (by simp[maxLen];omega) (x:=16+(q:Int)) (show -9223372036854775808<=16+(q:Int)/\16+(q:Int)<=9223372036854775807 by omega) (.pointer (some ⟨W.heap.size,0,none⟩));obtain⟨hc2,hk2⟩:=hcW.add hq hvW hbW rfl hW1 hm2 hg2 hs2;obtain⟨ι2,hι2⟩ : ∃ ι2:Nat->Option CRol,ι2=fun j=>if j=W.heap.size then some (CRol.item q) else rolV ι (.slice va vn vc) j:=⟨_,rfl⟩
 rw[<-hι2]at hc2;have hi2:ι2 W.heap.size=some (.item q):=by rw[hι2];exact if_pos rfl
 have hn2 : ∀ j,ι j=none->¬ (Value.slice va vn vc).ownBlock=some j->j≠W.heap.size->ι2 j=none:=fun j h1 h2 h3=>by
  rw[hι2];show (if _ then _ else _)=none;rw[if_neg h3];unfold rolV;rw[if_neg h2];exact h1
 have ho2 : ∀ j,ι2 j≠none->ι j≠none\/(Value.slice va vn vc).ownBlock=some j\/W.heap.size<=j:=fun j hj=>by
  by_cases h1:ι j=none
  ·by_cases h2:(Value.slice va vn vc).ownBlock=some j
   ·exact .inr (.inl h2)
   ·by_cases h3:j=W.heap.size
    ·exact .inr (.inr (by omega))
    ·exact absurd (hn2 j h1 h2 h3) hj
  ·exact .inl h1
 have HN2:=hid hn2;have HO2:=hid ho2;have hr0:=(Keep.block (hxW.keep (fun _=>True)) g0 trivial (blt HR0.out)).trans HR0.out;have hr2:=(hk2.block g0 hn0 (blt hr0)).trans hr0;have HR2:=hid hr2;have HC2:=hid hc2;have HI2:=hid hi2;have HK2:=hid (show Keep (fun j=>ι j=none) w W2 from ((HX0.out.trans hxW).keep _).trans hk2);have hg0W:W.heap.size≠g0:=fun e=>by have:=(blt hr0);omega
 rw[hW1]at hrun;have hrun:(Instr.mapUpdate 195 (.map (some gm)) (.int .i64 (16+q)) (.pointer (some ⟨W.heap.size,0,none⟩))).run Tryz.prog (W.alloc (.cells #[.int .i64 (16+q),.slice va vn vc,.bool false,.int .i64 0,.pointer none,.pointer none] 264)) = .ok () W2:=hrun;have HG0W:=hid hg0W;have HZ:=hid (show w.heap.size<=W.heap.size from Nat.le_trans HX0.out.size hzW);clear hι2 hn2 ho2 hW hcW hd hm2 hg2 hs2 hc2 hi2 hr0 hr2 hk2 hW1 hxW hvW hbW hg0W hlen hxW1;go_wp2_with fail;refine(zko W2 HC2.out W.heap.size q HI2.out).mono ?_;rintro e w3 ⟨rfl,h3,s3⟩;have hn3:ι2 g0=none:=HN2.out g0 hn0 (fun e=>by have:=(HB.out g0 e).2;have:=HG0.out;omega) (fun e=>HG0W.out e.symm);have hr3:=(s3.1.block g0 hn3 (blt HR2.out)).trans HR2.out;have o0:=(cr 0 hr3)
 have o1:=(cr 1 hr3)
 have o2:=(cr 2 hr3)
 have H3:=hid h3;have S3:=hid s3;clear h3 s3 hn3 hr3;go_wp2_with fail;go_quiet (fail);go_wp2_with fail;refine bodyPost_ret (v:=.tuple #[.int .i64 0,.slice none 0 0,.bool false,.bool false,.int .i64 0]) (by simp[results,Tryz.results143,go_sem]) rfl ?_;have hxq : ∀ W:World,Ext W (W.drewN nq):=fun W=>(Ext.refl W).drewN nq;have hkk:Keep (fun j=>(ι j=none/\¬ (Value.slice va vn vc).ownBlock=some j)/\j<w.heap.size) w (w3.drewN nq):=((HK2.out.mono fun j hj _=>hj.1.1).trans (S3.out.1.mono fun j hj hl=>HN2.out j hj.1.1 hj.1.2 (by have:=HZ.out;omega))).trans ((hxq _).keep _);exact⟨⟨_,rfl⟩,⟨ι2,_,_,H3.out.ext (hxq _),fun j hj=>(HO2.out j hj).imp id (.imp id fun h=>Nat.le_trans HZ.out h)⟩,hkk.mono fun j hj hl=>⟨hj,hl⟩⟩
end
def CaAt (T:Nat->Prop) (w:World) (gc q:Nat) (f:Nat->Bk):Prop:=∃ ι gm it vs,CaP w ι gc gm q f it vs/\∀ j,ι j≠none->T j
theorem CaAt.keep {T:Nat->Prop}{w w':World}{gc q:Nat}{f:Nat->Bk} (h:CaAt T w gc q f) (hk:Keep T w w'):CaAt T w' gc q f:=by
 obtain⟨ι,gm,it,vs,h1,h2⟩:=h;exact⟨ι,gm,it,vs,h1.keep (hk.mono fun j hj _=>h2 j hj),h2⟩
theorem CaAt.ext {T:Nat->Prop}{w w':World}{gc q:Nat}{f:Nat->Bk} (h:CaAt T w gc q f) (hx:Ext w w'):CaAt T w' gc q f:=h.keep (hx.keep _)
theorem CaAt.mono {T T':Nat->Prop}{w:World}{gc q:Nat}{f:Nat->Bk} (h:CaAt T w gc q f) (hT : ∀ j,T j->j<w.heap.size->T' j):CaAt T' w gc q f:=by
 obtain⟨ι,gm,it,vs,h1,h2⟩:=h;exact⟨ι,gm,it,vs,h1,fun j hj=>hT j (h2 j hj) (h1.lt j hj)⟩
theorem CaAt.congr {T:Nat->Prop}{w:World}{gc q:Nat}{f f':Nat->Bk} (h:CaAt T w gc q f) (hf : ∀ k,k<q->f k=f' k):CaAt T w gc q f':=by
 obtain⟨ι,gm,it,vs,h1,h2⟩:=h;exact⟨ι,gm,it,vs,{ h1 with vals:=fun k hk=>by rw[<-hf k hk];exact h1.vals k hk },h2⟩
theorem zrn {T:Nat->Prop}{w:World}{gc q:Nat}{f:Nat->Bk} (h:CaAt T w gc q f) (k:Nat) (hk:k<q) :
  Calls Tryz.prog 142 #[.pointer (some ⟨gc,0,none⟩),.int .i64 (16+k)] w fun e w'=>∃ v,e = .returned (.tuple #[v,.bool true])/\RdB w' v (f k)/\CaAt T w' gc q f/\Keep (fun j=>¬ T j) w w':=by
 obtain⟨ι,gm,it,vs,h1,h2⟩:=h;refine(zt7 w h1 k hk).mono ?_;rintro e w' ⟨rfl,h3,h4⟩;exact⟨_,rfl,(h3.vals k hk).1,⟨ι,gm,it,vs,h3,h2⟩,h4.1.mono fun j hj _=>by
  by_cases e:ι j=none
  ·exact e
  ·exact absurd (h2 j e) hj⟩
theorem zpa {T:Nat->Prop}{w:World}{gc q:Nat}{f:Nat->Bk} (h:CaAt T w gc q f) (n:Int) (hn:16+(q:Int)<=n) (hn2:n<=1000000) :
  Calls Tryz.prog 142 #[.pointer (some ⟨gc,0,none⟩),.int .i64 n] w fun e w'=>e = .returned (.tuple #[.slice none 0 0,.bool false])/\w=w':=by
 obtain⟨ι,gm,it,vs,h1,h2⟩:=h;exact zrp w h1 n (by omega) (by omega)
theorem zuq {T:Nat->Prop}{w:World}{gc q:Nat}{f:Nat->Bk} (h:CaAt T w gc q f) (k:Nat) (hk:k<=q) (hk16:k<16) (va:Option Addr) (vn vc:Nat) (b:Bk) (hv:RdB w (.slice va vn vc) b) (hb : ∀ j,(Value.slice va vn vc).ownBlock=some j->¬ T j/\j<w.heap.size) :
  Calls Tryz.prog 143 #[.pointer (some ⟨gc,0,none⟩),.int .i64 (16+k),.slice va vn vc,.bool false] w fun e w'=>(∃ u,e = .returned u)/\
   CaAt (fun j=>T j\/(Value.slice va vn vc).ownBlock=some j\/(w.heap.size<=j/\j<w'.heap.size)) w' gc (max q (k+1)) (updN f k b)/\Keep (fun j=>¬ T j/\¬ (Value.slice va vn vc).ownBlock=some j) w w':=by
 obtain⟨ι,gm,it,vs,h1,h2⟩:=h;have hn : ∀ j,¬ T j->ι j=none:=fun j hj=>by
  by_cases e:ι j=none
  ·exact e
  ·exact absurd (h2 j e) hj
 have hb' : ∀ j,(Value.slice va vn vc).ownBlock=some j->ι j=none/\j<w.heap.size:=fun j hj=>⟨hn j (hb j hj).1,(hb j hj).2⟩
 by_cases hkq:k<q
 ·refine(zt6 w h1 k hkq va vn vc b hv hb').mono ?_;rintro e w' ⟨hu,h3,h4⟩;refine⟨hu,?_,h4.mono fun j hj _=>hn j hj.1⟩;rw[Nat.max_eq_left (by omega)];refine⟨_,gm,it,_,h3,fun j hj=>?_⟩;unfold rolV at hj;split at hj
  ·rename_i e;exact .inr (.inl e)
  ·exact .inl (h2 j hj)
 ·obtain rfl:k=q:=by omega
  refine(zro w h1 hk16 va vn vc b hv hb').mono ?_;rintro e w' ⟨hu,⟨ι',it',vs',h3,h5⟩,h4⟩;refine⟨hu,?_,h4.mono fun j hj _=>⟨hn j hj.1,hj.2⟩⟩;rw[Nat.max_eq_right (by omega)];refine⟨ι',gm,it',vs',h3,fun j hj=>?_⟩;rcases h5 j hj with h|h|h
  ·exact .inl (h2 j h)
  ·exact .inr (.inl h)
  ·exact .inr (.inr ⟨h,h3.lt j hj⟩)
theorem zya (w:World) (f:Nat->Bk) :
  Calls Tryz.prog 60 #[.int .i64 16] w fun e w'=>∃ gc,e = .returned (.tuple #[.pointer (some ⟨gc,0,none⟩),.int .i64 0])/\CaAt (fun j=>w.heap.size<=j/\j<w'.heap.size) w' gc 0 f/\Ext w w':=by
 have hmm:= @run_makeMap Tryz.prog;go_enter Tryz.func60,Tryz.ntmps60;go_wp2_with fail;refine bodyPost_ret (v:=.tuple #[.pointer (some ⟨w.heap.size+1,0,none⟩),.int .i64 0]) (by simp[results,Tryz.results60,go_sem]) rfl ?_;have hm:=MapG.made kInt w;have x1:Ext w (w.alloc (.map #[] 0)):=(Ext.refl w).alloc _;have s1:(w.alloc (.map #[] 0)).heap.size=w.heap.size+1:=by simp
 generalize (w.alloc (.map #[] 0))=w1 at hm x1 s1 ⊢;have x2:Ext w1 (w1.alloc (.cells #[.int .i64 16,.map (some w.heap.size),.pointer none,.pointer none] 198)):=(Ext.refl w1).alloc _;have r2:(w1.alloc (.cells #[.int .i64 16,.map (some w.heap.size),.pointer none,.pointer none] 198)).heap[w.heap.size+1]? = some (.cells #[.int .i64 16,.map (some w.heap.size),.pointer none,.pointer none] 198 (0,0)):=by rw[<-s1];exact heap_alloc_new _ _
 have s2:(w1.alloc (.cells #[.int .i64 16,.map (some w.heap.size),.pointer none,.pointer none] 198)).heap.size=w.heap.size+2:=by simp[s1]
 generalize (w1.alloc (.cells #[.int .i64 16,.map (some w.heap.size),.pointer none,.pointer none] 198))=w2 at x2 r2 s2 ⊢;refine⟨w.heap.size+1,rfl,⟨fun j=>if j=w.heap.size then some .cmap else if j=w.heap.size+1 then some .head else none,w.heap.size,fun _=>0,fun _=>.slice none 0 0,{
  head:=⟨none,none,.inl rfl,.inl rfl,r2⟩
  rh:=by simp
  map:= ?_
  rm:=by simp
  items:=fun k hk=>absurd hk (Nat.not_lt_zero _)
  ri:=fun k hk=>absurd hk (Nat.not_lt_zero _)
  own:=fun i k hi=>by
   try simp only at hi
   split at hi
   ·cases hi
   ·split at hi <;> cases hi
  vals:=fun k hk=>absurd hk (Nat.not_lt_zero _)
  lt:=fun j hj=>?_
  few:=Nat.zero_le _ },fun j hj=>?_⟩,x1.trans x2⟩
 ·have:byM 0 (fun _=>0)=fun _=>none:=funext fun n=>zm5 (by omega);rw[this];exact hm.ext x2
 ·try simp only at hj
  split at hj
  ·omega
  ·split at hj
   ·omega
   ·exact absurd rfl hj
 ·try simp only at hj
  split at hj
  ·omega
  ·split at hj
   ·omega
   ·exact absurd rfl hj
end
end Go.Proofs.YtnadlnmclameiaaGreatDoor
