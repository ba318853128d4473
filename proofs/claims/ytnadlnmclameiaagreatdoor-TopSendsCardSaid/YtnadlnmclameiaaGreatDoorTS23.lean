/- part 23 -/
import Derived.Test.YtnadlnmclameiaaGreatDoorTS22
set_option maxRecDepth 100000
set_option maxHeartbeats 8000000
set_option linter.all false
namespace Go.Proofs.YtnadlnmclameiaaGreatDoor
section
open Go.RowKit Go.Shelf
attribute [local go_sem] Oper.semAt_some
def MapAt (T:Nat->Prop) (w:World) (g:Nat) (now last:List Bool):Prop:=
 ∃ vn vl,w.heap[g]? = some (.cells #[vn,vl] 201 (0,0))/\OwnS rBo 4 w 0 (fun _=>False) vn now/\OwnS rBo 4 w 0 (fun _=>False) vl last/\last.length=now.length/\now.length<=512/\
  T g/\(∀ k,vn.ownBlock=some k->k≠g/\vl.ownBlock≠some k/\T k)/\(∀ k,vl.ownBlock=some k->k≠g/\T k)
theorem MapAt.keep {T:Nat->Prop}{w w':World}{g:Nat}{now last:List Bool} (h:MapAt T w g now last) (hk:Keep T w w'):MapAt T w' g now last:=by
 obtain⟨vn,vl,h1,h2,h3,h4,h5,h6,h7,h8⟩:=h;exact⟨vn,vl,(hk.block g h6 (blt h1)).trans h1,h2.kept (hk.mono fun k hk' _=>by rcases hk' with h|h;exact h.elim;exact(h7 k h).2.2),h3.kept (hk.mono fun k hk' _=>by rcases hk' with h|h;exact h.elim;exact(h8 k h).2),h4,h5,h6,h7,h8⟩
theorem MapAt.ext {T:Nat->Prop}{w w':World}{g:Nat}{now last:List Bool} (h:MapAt T w g now last) (hk:Ext w w'):MapAt T w' g now last:=h.keep (hk.keep _)
theorem MapAt.lt {T:Nat->Prop}{w:World}{g:Nat}{now last:List Bool} (h:MapAt T w g now last):g<w.heap.size:=by
 obtain⟨vn,vl,h1,_⟩:=h;exact(blt h1)
theorem zhg (w:World) (p:Option Addr) :
  Calls Tryz.prog 140 #[.pointer p] w fun e w'=>e = .returned (.func (.func 165) #[] #[.pointer (some ⟨w.heap.size,0,none⟩)])/\w'=w.alloc (.cells #[.pointer p] 146):=by
 go_enter Tryz.func140,Tryz.ntmps140;go_wp2_with fail;go_ret;exact⟨rfl,rfl⟩
theorem zt3 (T:Nat->Prop) (w:World) (g:Nat) (now last:List Bool) (h:MapAt T w g now last) :
  Calls Tryz.prog 139 #[.pointer (some ⟨g,0,none⟩)] w fun e w'=>e = .returned (.int .i64 ((qo now last).length:Nat))/\Ext w w':=by
 obtain⟨vn,vl,h1,h2,h3,h4,h5,-⟩:=h;have hg:=(blt h1)
 have H1:=hid h1;have H2:=hid h2;have H3:=hid h3;have H4:=hid h4;clear h1 h2 h3 h4;refine(callsIn_wide (n:=6)).1 (callsIn_of_wp_marks Tryz.func139 rfl trivial ?_ rfl);simp only[Tryz.ntmps139,List.size_toArray,List.length_cons,List.length_nil,Nat.reduceAdd,Nat.reduceSub,Array.replicate_succ,Array.replicate_zero,List.push_toArray,List.append_toArray,List.nil_append,List.cons_append];refine wpIn_wide.2 ?_;go_wp2_with fail;refine(zhg _ _).mono ?_;rintro e w' ⟨rfl,rfl⟩;go_wp2_with fail;obtain⟨W,hW⟩ : ∃ W,W=((w.alloc (.cells #[.int .i64 0] 3)).alloc (.cells #[.pointer (some ⟨g,0,none⟩)] 146)):=⟨_,rfl⟩
 have hx:Ext w W:=by rw[hW];exact((Ext.refl w).alloc _).alloc _
 have hsz:W.heap.size=w.heap.size+2:=by rw[hW];simp
 have hB:W.heap[w.heap.size]? = some (.cells #[.int .i64 0] 3 (0,0)):=by
  rw[hW];exact(Below.block ((Ext.refl (w.alloc (.cells #[.int .i64 0] 3))).alloc _) w.heap.size (by simp)).trans (heap_alloc_new _ _)
 have hM:W.heap[w.heap.size+1]? = some (.cells #[.pointer (some ⟨g,0,none⟩)] 146 (0,0)):=by
  rw[hW];have:=heap_alloc_new (w.alloc (.cells #[.int .i64 0] 3)) (.cells #[.pointer (some ⟨g,0,none⟩)] 146);rwa [x9]at this
 rw[<-hW];clear hW;obtain⟨Bn,hBn⟩ : ∃ Bn,Bn=w.heap.size:=⟨_,rfl⟩
 rw[<-hBn]at hB ⊢;have hseq:=zlk 5 W g (w.heap.size+1) vn vl now last ((cr 0 hM)) ((cr 0 ((Below.block hx g hg).trans H1.out))) ((cr 1 ((Below.block hx g hg).trans H1.out))) (H2.out.rdT.ext hx) (H3.out.rdT.ext hx) H4.out h5;rw[<-hBn]at hseq;have HX:=hid hx;have HB:=hid hB;have HBN:=hid hBn;have HSZ:=hid hsz;clear hx hB hM hBn hsz;refine(wpIn_wide (n:=6)).1 ?_;refine zb3 (w0:=W) rfl (by omega) (gf:=165) (lb:=#[.pointer (some ⟨Bn+1,0,none⟩)]) rfl trivial (enters_of Tryz.func165 (by kernel_rfl) rfl) hseq (Ext.refl _) (fun _=>rfl)
  (fun pre C V=>C Bn/\V.heap[Bn]? = some (.cells #[.int .i64 ((flat pre).length:Nat)] 3 (0,0))/\Keep (fun k=>k<w.heap.size) w V) (fun _ _ _ _=>False) ?_ (fun _ _ _ _ _ h _=>h) (fun k=>k=Bn) (fun k hk=>by have h1:=HBN.out;have h2:=HSZ.out;omega) ⟨rfl,HB.out,HX.out.keep _⟩
  (fun x V a₁ V₁=>∃ Bx,V.heap.size<=Bx/\V₁.heap[Bx]? = some (.cells #[.int .i64 (x.1:Int),.int .i64 (x.2:Int)] 209 (0,0))/\a₁={ tmps:=#[.pointer (some ⟨g,0,none⟩),undef,.int .i64 0,.pointer (some ⟨Bn,0,none⟩),.pointer (some ⟨Bx,0,none⟩),.pointer (some ⟨g,0,none⟩),.func (.func 165) #[] #[.pointer (some ⟨Bn+1,0,none⟩)],.agg #[.int .i64 (x.1:Int),.int .i64 (x.2:Int)],undef,undef,undef,undef,undef],defers:=[] }) ?_ ?_ ?_ ?_ ?_
 ·rintro s C V V' ⟨q1,q2,q3⟩ hk;exact⟨q1,(hk.block _ (.inr q1) (blt q2)).trans q2,q3.trans (hk.mono fun k h _=>.inl (by have h2:=HSZ.out;omega))⟩
 ·rintro x V a₁ V₁ V₂ ⟨Bx,q1,q2,q3⟩ hk;exact⟨Bx,q1,(hk.block _ q1 (blt q2)).trans q2,q3⟩
 ·intro l x V K hK;simp only[encR];gi_wp2
  exact hK _ _ ⟨_,Nat.le_refl _,heap_alloc_new _ _,rfl⟩ ((Ext.refl V).alloc _)
 ·rintro l pre x C V a₁ V₂ ⟨q1,q2,q3⟩ ⟨Bx,hBx,hrx,rfl⟩ p1 p2 p3 hok;have hfl:(flat (pre++[x])).length<=512:=by
   have:=hok.2.1.length_le;have h2:(qo now last).length<=512:=by
    unfold qo yt;have:=List.length_filter_le (xl now last) (List.range now.length);rw[List.length_range]at this;omega
   omega
  rw[xw,jl,List.length_append,List.length_range']at hfl;have c0:V₂.cell? ⟨Bn,0,none⟩=some (.int .i64 ((flat pre).length:Nat)):=(cr 0 q2)
  have c1:V₂.cell? ⟨Bx,1,none⟩=some (.int .i64 (x.2:Int)):=(cr 1 hrx)
  have f0:=yp q2 0;have Q2:=hid q2;have Q3:=hid q3;clear q2 q3 hrx;gi_wp2
  refine⟨C,⟨(Keep.refl _ _).setCell (p:=⟨Bn,0,none⟩) (fun h=>h (.inl q1)) _,fun k hk=>⟨.inl (.inl hk),by simp only[xf];have:=p3 k hk;omega⟩⟩,q1,(kv Q2.out _).trans ?_,Q3.out.setCell (p:=⟨Bn,0,none⟩) (by have h1:=HBN.out;dsimp only;omega) _⟩;rw[xw,jl,List.length_append,List.length_range'];simp
 ·rintro D xs C V hD hCD hS ⟨q1,q2,q3⟩ hdef;have c0:V.cell? ⟨Bn,0,none⟩=some (.int .i64 ((flat xs).length:Nat)):=(cr 0 q2)
  rw[hS.2.1]at c0;have Q3:=hid q3;have HD:=hid hdef;clear q2 q3 hdef hS;go_wp2_with fail;refine⟨by simp,.inl ⟨_,_,rfl,run_takeDeferred HD.out,?_⟩⟩;exact⟨_,by simp[results,Tryz.results139,go_sem],rfl,((Q3.out.trans (qq V D _ (fun h=>by have h2:=HSZ.out;omega))).below w.heap.size (Nat.le_refl _) fun k h=>h)⟩
 ·rintro D c pre C V hD hCD hok hf hdef;exact hf.elim
end
section
open Go.RowKit
def za5 (T:Nat->Prop) (w w':World):Nat->Prop:=fun k=>T k\/(w.heap.size<=k/\k<w'.heap.size)
theorem MapAt.putLast {T:Nat->Prop}{w w1:World}{g:Nat}{now last xs:List Bool}{v':Value} (h:MapAt T w g now last) (hx:Ext w w1) (ho:OwnS rBo 4 w1 w.heap.size (fun _=>False) v' xs) (hl:xs.length=now.length) :
  MapAt (za5 T w (w1.setCell ⟨g,1,none⟩ v')) (w1.setCell ⟨g,1,none⟩ v') g now xs/\Keep (fun k=>¬ T k) w (w1.setCell ⟨g,1,none⟩ v'):=by
 have hg:=h.lt;obtain⟨vn,vl,h1,h2,h3,h4,h5,h6,h7,h8⟩:=h;have r1:=(Below.block hx g hg).trans h1;refine⟨⟨vn,v',kv r1 v',(h2.ext hx).kept ((Keep.refl _ _).setCell (p:=⟨g,1,none⟩) (fun h=>by rcases h with h|h;exact h;exact(h7 g h).1 rfl) _),(ho.low (Nat.zero_le _)).kept ((Keep.refl _ _).setCell (p:=⟨g,1,none⟩) (fun h=>by rcases h with h|h;exact h;(have:=(ho.lt g h).1;omega)) _),hl,h5,.inl h6,fun k hk=>⟨(h7 k hk).1,fun e=>?_,.inl (h7 k hk).2.2⟩,fun k hk=>⟨fun e=>?_,.inr ?_⟩⟩,(hx.keep _).setCell (p:=⟨g,1,none⟩) (fun h=>h h6) _⟩
 ·have e1:=(ho.lt k e).1;have e2:=(h2.lt k hk).2;omega
 ·have e1:=(ho.lt k hk).1;omega
 ·have e1:=ho.lt k hk;simp only[xf];exact e1
theorem MapAt.putNow {T:Nat->Prop}{w w1:World}{g:Nat}{now last xs:List Bool}{v':Value} (h:MapAt T w g now last) (hx:Ext w w1) (ho:OwnS rBo 4 w1 w.heap.size (fun _=>False) v' xs) (hl:xs.length=now.length) :
  MapAt (za5 T w (w1.setCell ⟨g,0,none⟩ v')) (w1.setCell ⟨g,0,none⟩ v') g xs last/\Keep (fun k=>¬ T k) w (w1.setCell ⟨g,0,none⟩ v'):=by
 have hg:=h.lt;obtain⟨vn,vl,h1,h2,h3,h4,h5,h6,h7,h8⟩:=h;have r1:=(Below.block hx g hg).trans h1;refine⟨⟨v',vl,kv r1 v',(ho.low (Nat.zero_le _)).kept ((Keep.refl _ _).setCell (p:=⟨g,0,none⟩) (fun h=>by rcases h with h|h;exact h;(have:=(ho.lt g h).1;omega)) _),(h3.ext hx).kept ((Keep.refl _ _).setCell (p:=⟨g,0,none⟩) (fun h=>by rcases h with h|h;exact h;exact(h8 g h).1 rfl) _),by omega,by omega,.inl h6,fun k hk=>⟨fun e=>?_,fun e=>?_,.inr ?_⟩,fun k hk=>⟨(h8 k hk).1,.inl (h8 k hk).2⟩⟩,(hx.keep _).setCell (p:=⟨g,0,none⟩) (fun h=>h h6) _⟩
 ·have e1:=(ho.lt k hk).1;omega
 ·have e1:=(ho.lt k hk).1;have e2:=(h3.lt k e).2;omega
 ·have e1:=ho.lt k hk;simp only[xf];exact e1
theorem ze3 (T:Nat->Prop) (w:World) (g:Nat) (now last:List Bool) (h:MapAt T w g now last) :
  Calls Tryz.prog 96 #[.pointer (some ⟨g,0,none⟩)] w fun e w'=>e = .returned (.tuple #[])/\MapAt (za5 T w w') w' g now now/\Keep (fun k=>¬ T k) w w':=by
 have H:=hid h;obtain⟨vn,vl,h1,h2,h3,h4,h5,-⟩:=h;have hg:=(blt h1)
 have c0:w.cell? ⟨g,0,none⟩=some vn:=(cr 0 h1)
 have H2:=hid h2;have H1:=hid h1;obtain⟨na,nc,rfl⟩:=h2.slice;clear h1 h2 h3 h4;go_enter Tryz.func96,Tryz.ntmps96;go_wp2_with fail;refine(xy w _ _ now H2.out.rdT (by omega)).mono ?_;rintro e w1 ⟨v',rfl,ho,hx⟩;obtain⟨a1,n1,rfl⟩:=ho.slice;have r1:=(Below.block hx g hg).trans H1.out;have c1:w1.cell? ⟨g,1,none⟩=some vl:=(cr 1 r1)
 have f1:=yp r1 1;have HO:=hid ho;have HX:=hid hx;clear ho hx r1;go_wp2_with fail;go_end0;obtain⟨q1,q2⟩:=H.out.putLast HX.out HO.out rfl;exact⟨rfl,q1,q2⟩
theorem zk6 (T:Nat->Prop) (w:World) (g:Nat) (now last:List Bool) (h:MapAt T w g now last) :
  Calls Tryz.prog 110 #[.pointer (some ⟨g,0,none⟩)] w fun e w'=>e = .returned (.int .i64 (now.length:Nat))/\w=w':=by
 obtain⟨vn,vl,h1,h2,h3,h4,h5,-⟩:=h;have c0:w.cell? ⟨g,0,none⟩=some vn:=(cr 0 h1)
 obtain⟨na,nc,rfl⟩:=h2.slice;clear h1 h2 h3 h4;go_enter Tryz.func110,Tryz.ntmps110;go_wp2_with fail;go_ret;exact⟨rfl,rfl⟩
end
section
open Go.RowKit
def rRn:Rdr (Int × Int):=ke rI rI
def clr (now:List Bool) (a:Nat):Nat->List Bool
 | 0=>now
 | k+1=>(clr now a k).set (a+k) false
theorem zfm (now:List Bool) (a:Nat) : ∀ k,(clr now a k).length=now.length
 | 0=>rfl
 | k+1=>by rw[clr,List.length_set,zfm now a k]
theorem zm4 (now:List Bool) (a:Nat) : ∀ k i,a+k<=i->(clr now a k)[i]? = now[i]?
 | 0,_,_=>rfl
 | k+1,i,h=>by rw[clr,List.getElem?_set_ne (by omega),zm4 now a k i (by omega)]
def zbn (now:List Bool) (r:Int × Int):Prop:=1<=r.2/\0<=r.1/\r.1<(now.length:Int)/\r.2<=(now.length:Int)-r.1
instance (now:List Bool) (r:Int × Int):Decidable (zbn now r):=by unfold zbn;infer_instance
def xm (now:List Bool) (r:Int × Int):Option (List Bool):=
 if zbn now r/\(List.range' r.1.toNat r.2.toNat).all (fun i=>now.getD i false)=true then some (clr now r.1.toNat r.2.toNat) else none
def jk (now:List Bool):List (Int × Int)->Option (List Bool)
 | []=>some now
 | r :: l=>(xm now r).bind fun n=>jk n l
theorem zg1 (l:List (Int × Int)) (r:Int × Int) : ∀ now,jk now (l++[r])=(jk now l).bind fun n=>xm n r:=by
 induction l with
 | nil=>intro now;show ((xm now r).bind fun n=>some n)=xm now r;cases xm now r <;> rfl
 | cons a l ih=>
  intro now;simp only[List.cons_append,jk];cases xm now a with
  | none=>rfl
  | some n=>exact ih n
theorem zoe {l:List (Int × Int)}{now:List Bool} : ∀ (m:List (Int × Int)),jk now l=none->jk now (l++m)=none:=by
 intro m;induction l generalizing now with
 | nil=>intro h;cases h
 | cons a l ih=>
  intro h;simp only[List.cons_append,jk]at h ⊢;cases hg:xm now a with
  | none=>rfl
  | some n=>rw[hg]at h;exact ih h
theorem zl4 {now n:List Bool}{r:Int × Int} (h:xm now r=some n):n.length=now.length:=by
 unfold xm at h;split at h
 ·cases h;exact zfm _ _ _
 ·cases h
theorem zqp : ∀ {l:List (Int × Int)}{now n:List Bool},jk now l=some n->n.length=now.length:=by
 intro l;induction l with
 | nil=>intro now n h;cases h;rfl
 | cons a l ih=>
  intro now n h;simp only[jk]at h;cases hg:xm now a with
  | none=>rw[hg]at h;cases h
  | some m=>rw[hg]at h;rw[ih h,zl4 hg]
theorem zce {now cur:List Bool}{rs:List (Int × Int)}{i:Nat}{r:Int × Int} (h:jk now (rs.take i)=some cur) (ht:rs.take (i+1)=rs.take i++[r]) (hb:xm cur r=none):jk now rs=none:=by
 rw[<-List.take_append_drop (i+1) rs];refine zoe _ ?_;rw[ht,zg1,h];exact hb
theorem za1 {cur:List Bool}{r:Int × Int} (h : ¬ zbn cur r):xm cur r=none:=if_neg fun h'=>h h'.1
theorem OwnS.head1 {α:Type}{r:Rdr α}{t:TypeId}{w:World}{base:Nat}{S:Nat->Prop}{v:Value}{xs:List α} (h:OwnS r t w base S v xs) (hn:0<xs.length) : ∃ g c cur,v = .slice (some ⟨g,0,none⟩) xs.length c/\base<=g/\g<w.heap.size/\w.heap[g]? = some (.cells cur t (0,0)):=by
 obtain⟨gs,rfl,⟨h1,h2⟩,h3,h4⟩:=h;rcases h2 with⟨h2,h2'⟩|⟨g',cap',cur,h2,hb,hg,hn,hm,hcs,hx⟩
 ·rw[List.length_map,h2']at hn;exact absurd hn (Nat.lt_irrefl _)
 ·subst h2;exact⟨g',cap',cur,by rw[List.length_map],hb,(blt hg),hg⟩
theorem zt2 (T:Nat->Prop) (w:World) (g:Nat) (now last:List Bool) (h:MapAt T w g now last) (S:Nat->Prop) (lv:Value) (rs:List (Int × Int)) (hr:RdS rRn w S lv rs) :
  Calls Tryz.prog 114 #[.pointer (some ⟨g,0,none⟩),lv] w fun e w'=>
   (∃ n,jk now rs=some n/\e = .returned (.int .i64 0)/\MapAt (za5 T w w') w' g n last/\Keep (fun k=>¬ T k) w w')\/(jk now rs=none/\e = .returned (.int .i64 51)/\Ext w w'):=by
 have H:=hid h;obtain⟨vn,vl,h1,h2,h3,h4,h5,-⟩:=h;have hg:=(blt h1)
 have c0:w.cell? ⟨g,0,none⟩=some vn:=(cr 0 h1)
 have H2:=hid h2;have H1:=hid h1;obtain⟨na,nc,rfl⟩:=h2.slice;obtain⟨la,lc,rfl,hl1,hl2⟩:=hr.slice;have HR:=hid hr;clear h1 h2 h3 h4 hr;go_enter Tryz.func114,Tryz.ntmps114;go_wp2_with fail;refine(xy w _ _ now H2.out.rdT (by omega)).mono ?_;rintro e w1 ⟨v',rfl,ho,hx⟩;obtain⟨a1,n1,rfl⟩:=ho.slice;have HO:=hid ho;have HX:=hid hx;clear ho hx c0;go_wp2_with fail;go_loopw [18] (fun u18 wr=>∃ (i:Nat) (cur:List Bool),u18 = .int .i64 i/\i<=rs.length/\jk now (rs.take i)=some cur/\OwnS rBo 4 wr w.heap.size (fun _=>False) (.slice a1 now.length n1) cur/\Ext w wr) (fun u18 _=>rs.length-(intOf u18).toNat);case atStart=>exact⟨0,now,rfl,by omega,rfl,HO.out,HX.out⟩
 case round=>
  obtain⟨wo,rfl⟩ : ∃ wo:World,wo=wr:=⟨_,rfl⟩
  obtain⟨i,cur,rfl,hi,hgv,ho,hx⟩:=hrel;have hcl:=zqp hgv;have HGV:=hid hgv;have HCL:=hid hcl;have HO1:=hid ho;have HX1:=hid hx;have hsx:=hx.size;clear hgv hcl ho hx;by_cases hlt:i<rs.length
  ·obtain⟨gr,orr,cr,cs,er,hgr,-,hcs,hcc,hrd⟩:=(HR.out.ext HX1.out).at i hlt;simp only[Value.slice.injEq]at er;obtain⟨rfl,-,rfl⟩:=er;have HTS:=hid (List.take_succ_eq_append_getElem hlt);generalize hri:rs[i]=r at hrd HTS;obtain⟨rf,rl⟩:=r;have hcells:cs=[.int .i64 rf,.int .i64 rl]/\(-9223372036854775808<=rf/\rf<=9223372036854775807)/\(-9223372036854775808<=rl/\rl<=9223372036854775807):=by
    obtain⟨_,_,rfl,⟨rfl,b1⟩,rfl,b2⟩:=hrd;exact⟨rfl,b1,b2⟩
   obtain⟨rfl,⟨b1,b2⟩,⟨b3,b4⟩⟩:=hcells;have d0:=hcc 0 _ rfl;have d1:=hcc 1 _ rfl;simp only[<-Nat.add_assoc,Nat.add_zero,show rRn.size=2 from rfl]at d0 d1;clear hcc hrd hcs hri;by_cases t1:rl<1
   ·have hnone:=zce HGV.out HTS.out (za1 fun h=>by unfold zbn at h;dsimp only at h;have:=HCL.out;omega);have HN:=hid hnone;clear hnone;go_wp2_with fail;go_ret;exact .inr ⟨HN.out,rfl,HX1.out.trans (show Ext wo _ by(exact Ext.xt))⟩
   ·by_cases t2:rf<0
    ·have hnone:=zce HGV.out HTS.out (za1 fun h=>by unfold zbn at h;dsimp only at h;have:=HCL.out;omega);have HN:=hid hnone;clear hnone;go_wp2_with fail;go_ret;exact .inr ⟨HN.out,rfl,HX1.out.trans (show Ext wo _ by(exact Ext.xt))⟩
    ·by_cases t3:(now.length:Int)<=rf
     ·have hnone:=zce HGV.out HTS.out (za1 fun h=>by unfold zbn at h;dsimp only at h;have:=HCL.out;omega);have HN:=hid hnone;clear hnone;go_wp2_with fail;go_ret;exact .inr ⟨HN.out,rfl,HX1.out.trans (show Ext wo _ by(exact Ext.xt))⟩
     ·by_cases t4:(now.length:Int)-rf<rl
      ·have hnone:=zce HGV.out HTS.out (za1 fun h=>by unfold zbn at h;dsimp only at h;have:=HCL.out;omega);have HN:=hid hnone;clear hnone;go_wp2_with fail;go_ret;exact .inr ⟨HN.out,rfl,HX1.out.trans (show Ext wo _ by(exact Ext.xt))⟩
      ·obtain⟨a,rfl⟩ : ∃ a:Nat,rf=(a:Int):=⟨rf.toNat,by omega⟩
       obtain⟨k,rfl⟩ : ∃ k:Nat,rl=(k:Int):=⟨rl.toNat,by omega⟩
       have hak:a+k<=now.length:=by omega
       go_upto_region 9 with fail;obtain⟨gB,hgB⟩ : ∃ gB,gB=wo.heap.size:=⟨_,rfl⟩
       have hnew:=heap_alloc_new wo (.cells #[.int .i64 (a:Int),.int .i64 (k:Int)] 209);have hxa:Ext wo (wo.alloc (.cells #[.int .i64 (a:Int),.int .i64 (k:Int)] 209)):=(Ext.refl wo).alloc _;have hsa:(wo.alloc (.cells #[.int .i64 (a:Int),.int .i64 (k:Int)] 209)).heap.size=wo.heap.size+1:=by simp
       rw[<-hgB]at hnew hsa ⊢;generalize (wo.alloc (.cells #[.int .i64 (a:Int),.int .i64 (k:Int)] 209))=wa at hnew hxa hsa ⊢;have c1:wa.cell? ⟨gB,1,none⟩=some (.int .i64 (k:Int)):=(cr 1 hnew)
       have HNEW:=hid hnew;have HXA:=hid hxa;have HGB:=hid hgB;have HOA:=hid (HO1.out.ext hxa);clear hnew hxa hsa hgB d0 d1;go_wp2_with fail;go_loopw [49] (fun u49 wr2=>∃ j:Nat,u49 = .int .i64 j/\j<=k/\(∀ q,q<j->cur.getD (a+q) false=true)/\OwnS rBo 4 wr2 w.heap.size (fun _=>False) (.slice a1 now.length n1) (clr cur a j)/\Ext w wr2/\wr2.heap[gB]? = some (.cells #[.int .i64 (a:Int),.int .i64 (k:Int)] 209 (0,0))) (fun u49 _=>k-(intOf u49).toNat);case atStart=>exact⟨0,rfl,by omega,fun q hq=>by omega,HOA.out,HX1.out.trans HXA.out,HNEW.out⟩
       case round=>
        obtain⟨w2,rfl⟩ : ∃ w2:World,w2=wr:=⟨_,rfl⟩
        obtain⟨j,rfl,hj,hq,ho2,hx2,hrow⟩:=hrel;have HQ:=hid hq;have HO2:=hid ho2;have HX2:=hid hx2;have HROW:=hid hrow;have hcl:=HCL.out;clear hq hx2;by_cases hjk:j<k
        ·have hcll:=zfm cur a j;obtain⟨g1,cc1,cu1,e1,hb1,hg1,hr1⟩:=ho2.head1 (by omega);obtain⟨g2,o2,cc2,e2,hg2,-,z2⟩:=ho2.rdT.atB (a+j) (by omega);rw[hcll,hcl]at e1 e2;simp only[Value.slice.injEq]at e1 e2;obtain⟨rfl,-,rfl⟩:=e1;obtain⟨e2,-,-⟩:=e2;simp only[Option.some.injEq,Addr.mk.injEq]at e2;obtain⟨rfl,rfl,-⟩:=e2;rw[Nat.zero_add]at z2;have hv:(clr cur a j)[a+j]'(by omega)=cur.getD (a+j) false:=by
          have h1:=zm4 cur a j (a+j) (Nat.le_refl _);rw[List.getD_eq_getElem?_getD,<-h1,List.getElem?_eq_getElem (by omega)];rfl
         rw[hv]at z2;have q0:w2.cell? ⟨gB,0,none⟩=some (.int .i64 (a:Int)):=(cr 0 hrow)
         have q1:w2.cell? ⟨gB,1,none⟩=some (.int .i64 (k:Int)):=(cr 1 hrow)
         have f1:=yp hr1 (a+j);have haj:a+j<now.length:=by omega
         have hne:g1≠gB:=fun e=>by
          subst e;rw[hr1]at hrow;simp at hrow
         cases hb:cur.getD (a+j) false with
         | true=>
          rw[hb]at z2;have HB:=hid hb;have HR1:=hid hr1;clear hb hv hrow ho2 hr1 hcll hcl;go_wp2_with fail;go_roundw;case rel=>
           refine⟨j+1,by go_num,by omega,fun q hq=>?_,HO2.out.set1 rfl (a+j) (by have:=zfm cur a j;have:=HCL.out;omega) _ false rfl,HX2.out.setCell (p:=⟨g1,a+j,none⟩) hb1 _,(Below.heap_setCell w2 ⟨g1,a+j,none⟩ _ gB (fun e=>hne e.symm)).trans HROW.out⟩;rcases Nat.lt_or_ge q j with h|h
           ·exact HQ.out q h
           ·obtain rfl:q=j:=by omega
            exact HB.out
          case measure=>simp[intOf];omega
         | false=>
          rw[hb]at z2;have hnone:=zce HGV.out HTS.out (show xm cur ((a:Int),(k:Int))=none from if_neg fun h=>by
           have h2:=List.all_eq_true.1 h.2 (a+j) (by simp only[Int.toNat_natCast];exact List.mem_range'.2 ⟨j,by omega,by omega⟩);rw[hb]at h2;cases h2)
          have HN:=hid hnone;clear hnone hb hv hrow ho2 hr1 hcll hcl;go_wp2_with fail;go_ret;exact .inr ⟨HN.out,rfl,HX2.out⟩
        ·obtain rfl:j=k:=by omega
         have hrun:xm cur ((a:Int),(j:Int))=some (clr cur a j):=by
          unfold xm;simp only[Int.toNat_natCast];refine if_pos ⟨by unfold zbn;dsimp only;omega,List.all_eq_true.2 fun x hx=>?_⟩;obtain⟨q,hq,rfl⟩:=List.mem_range'.1 hx;rw[Nat.one_mul];exact HQ.out q hq
         have HRUN:=hid hrun;have q1:w2.cell? ⟨gB,1,none⟩=some (.int .i64 (j:Int)):=(cr 1 hrow)
         clear hrun hrow ho2 hcl;go_wp2_with fail;go_roundw;case rel=>exact⟨i+1,clr cur a j,by go_num,by omega,by rw[HTS.out,zg1,HGV.out];exact HRUN.out,HO2.out,HX2.out⟩
         case measure=>simp[intOf];omega
  ·obtain rfl:i=rs.length:=by omega
   have hgv:=HGV.out;rw[List.take_length]at hgv;have c0:wo.cell? ⟨g,0,none⟩=some (.slice na now.length nc):=(cr 0 ((Below.block HX1.out g hg).trans H1.out))
   have f0:=yp ((Below.block HX1.out g hg).trans H1.out) 0;have HG:=hid hgv;clear hgv;go_wp2_with fail;go_ret;obtain⟨q1,q2⟩:=H.out.putNow HX1.out (show OwnS rBo 4 wo w.heap.size (fun _=>False) (.slice a1 now.length n1) cur from HO1.out) HCL.out;exact .inl ⟨cur,HG.out,rfl,q1,q2⟩
end
section
open Go.RowKit
def x6 (n:Nat):Array Value:=madeCells #[.bool false] n
theorem zl7 (n:Nat):(x6 n).toList=(List.replicate n false).map Value.bool:=by
 apply List.ext_getElem
 ·simp[x6,madeCells]
 ·intro i h1 h2;simp[x6,madeCells,Nat.mod_one]
theorem zud (n:Nat) (hn:n<=512) (w:World):(Instr.makeSlice 199 (.int .i64 n) (.int .i64 n)).run Tryz.prog w = .ok (.slice (some ⟨w.heap.size,0,none⟩) n n) (w.alloc (.cells (x6 n) 4)):=by
 obtain⟨i0,hi,hz0,hz1,hz2⟩:=info_parts zks;exact run_make_row 199 4 i0 _ Tryz.underlying199 hi hz0 hz1 rfl .i64 .i64 n (by rw[hz2];omega) (by omega) w
theorem zd2 {w:World}{g n:Nat} (hg:w.heap[g]? = some (.cells (x6 n) 4 (0,0))) (hn:n<=512) (base:Nat) (hb:base<=g):OwnS rBo 4 w base (fun _=>False) (.slice (some ⟨g,0,none⟩) n n) (List.replicate n false):=by
 have hc:cellsOf ((List.replicate n false).map fun b=>([Value.bool b],b))=(List.replicate n false).map Value.bool:=by
  unfold cellsOf;rw[List.flatMap_map];induction List.replicate n false with
  | nil=>rfl
  | cons a l ih=>rw[List.flatMap_cons,ih];rfl
 refine⟨(List.replicate n false).map fun b=>([.bool b],b),by simp,⟨?_,.inr ⟨g,n,_,by simp,hb,hg,by simp,by unfold maxLen;omega,?_,?_⟩⟩,fun k _ h=>h,fun p hp=>?_⟩
 ·rw[hc];simp[rBo]
 ·show (x6 n).size=n*1;simp[x6,madeCells]
 ·rw[hc,zl7,List.length_map,List.length_replicate];exact List.take_of_length_le (by simp[rBo])
 ·obtain⟨b,_,rfl⟩:=List.mem_map.1 hp;rfl
theorem zkm {w W:World}{n b1 b2 b3:Nat} (hn:n<=512) (hx:Ext w W) (h1:W.heap[b1]? = some (.cells (x6 n) 4 (0,0))) (h2:W.heap[b2]? = some (.cells (x6 n) 4 (0,0))) (h3:W.heap[b3]? = some (.cells #[.slice (some ⟨b1,0,none⟩) n n,.slice (some ⟨b2,0,none⟩) n n] 201 (0,0)))
  (l1:w.heap.size<=b1) (l2:w.heap.size<=b2) (l3:w.heap.size<=b3) (n1:b1≠b2) (n2:b1≠b3) (n3:b2≠b3) :
  MapAt (fun k=>w.heap.size<=k/\k<W.heap.size) W b3 (List.replicate n false) (List.replicate n false):=by
 have k1:=(blt h1)
 have k2:=(blt h2)
 have k3:=(blt h3)
 refine⟨_,_,h3,zd2 h1 hn 0 (Nat.zero_le _),zd2 h2 hn 0 (Nat.zero_le _),rfl,by simpa using hn,⟨l3,k3⟩,fun k hk=>?_,fun k hk=>?_⟩
 ·simp only[Value.ownBlock,Option.map_some,Option.some.injEq]at hk ⊢;subst hk;exact⟨n2,fun e=>n1 (Option.some.inj e.symm),l1,k1⟩
 ·simp only[Value.ownBlock,Option.map_some,Option.some.injEq]at hk;subst hk;exact⟨n3,l2,k2⟩
theorem zub (q:World) (a b:Array Value) (t u:TypeId) (c:Array Value) (v:TypeId) :
  (((q.alloc (.cells a t)).alloc (.cells b u)).alloc (.cells c v)).heap[q.heap.size]? = some (.cells a t (0,0))/\(((q.alloc (.cells a t)).alloc (.cells b u)).alloc (.cells c v)).heap[q.heap.size+1]? = some (.cells b u (0,0))/\(((q.alloc (.cells a t)).alloc (.cells b u)).alloc (.cells c v)).heap[q.heap.size+1+1]? = some (.cells c v (0,0)):=by
 have h1:=heap_alloc_new q (.cells a t);have h2:=heap_alloc_new (q.alloc (.cells a t)) (.cells b u);have h3:=heap_alloc_new ((q.alloc (.cells a t)).alloc (.cells b u)) (.cells c v);rw[x9]at h2;rw[x9,x9]at h3;exact⟨(Below.block (((Ext.refl (q.alloc (.cells a t))).alloc _).alloc _) _ (by simp)).trans h1,(Below.block ((Ext.refl ((q.alloc (.cells a t)).alloc (.cells b u))).alloc _) _ (by simp)).trans h2,h3⟩
theorem zwb (w:World) (n:Nat) (hn:n<=512) :
  Calls Tryz.prog 61 #[.int .i64 n] w fun e w'=>∃ g,e = .returned (.pointer (some ⟨g,0,none⟩))/\MapAt (fun k=>w.heap.size<=k/\k<w'.heap.size) w' g (List.replicate n false) (List.replicate n false)/\Ext w w':=by
 have hmk:=fun W=>zud n hn W;go_enter Tryz.func61,Tryz.ntmps61;go_wp2_with fail;have hxd:Ext w w.drew:=by(exact Ext.xt)
 refine zr (fun _=>True) [4,5,6] (by kernel_rfl) trivial (fun hS=>?_);have hx0:=hxd;generalize w.drew=q0 at hS hx0 ⊢;(refine za 0 rfl ?_;(try simp only[Act.put,tq0,tq1,tq2,tq3,tq4,tq5]));(refine za 2 rfl ?_;(try simp only[Act.put,tq0,tq1,tq2,tq3,tq4,tq5]));have hz0:=hx0.size;refine ze (rs:=[1,3]) (by kernel_rfl) (by decide) (AllT.consS rfl (fun K hK=>?_) (AllT.consS rfl (fun K hK=>?_) AllT.nil))
 ·go_simp;(refine hK.out _ _ (trivial) (fun hS=>?_);clear hK K);refine ze (rs:=[3]) (by kernel_rfl) (by decide) (AllT.consS rfl (fun K hK=>?_) AllT.nil);go_simp;(refine hK.out _ _ (trivial) (fun hS=>?_);clear hK K);refine ze (rs:=[4]) (by kernel_rfl) (by decide) (AllT.consF rfl rfl (fun K hK=>?_) AllT.nil);go_simp;(refine hK.out _ _ ?_;clear hK K);refine ze (rs:=[5]) (by kernel_rfl) (by decide) (AllT.consF rfl rfl (fun K hK=>?_) AllT.nil);go_simp;(refine hK.out _ _ ?_;clear hK K);refine ze (rs:=[6]) (by kernel_rfl) (by decide) (AllT.consF rfl rfl (fun K hK=>?_) AllT.nil);go_simp;(refine hK.out _ _ ?_;clear hK K);refine zn (by kernel_rfl) (NoPanic.normal ?_) _;go_wp2_with fail;go_ret;obtain⟨r1,r2,r3⟩:=zub q0 (x6 n) (x6 n) 4 4 _ _;exact⟨_,rfl,zkm hn (hx0.trans (by(exact Ext.xt))) r1 r2 r3 (by omega) (by omega) (by omega) (by omega) (by omega) (by omega),hx0.trans (by(exact Ext.xt))⟩
 ·go_simp;(refine hK.out _ _ (trivial) (fun hS=>?_);clear hK K);refine ze (rs:=[1]) (by kernel_rfl) (by decide) (AllT.consS rfl (fun K hK=>?_) AllT.nil);go_simp;(refine hK.out _ _ (trivial) (fun hS=>?_);clear hK K);refine ze (rs:=[4]) (by kernel_rfl) (by decide) (AllT.consF rfl rfl (fun K hK=>?_) AllT.nil);go_simp;(refine hK.out _ _ ?_;clear hK K);refine ze (rs:=[5]) (by kernel_rfl) (by decide) (AllT.consF rfl rfl (fun K hK=>?_) AllT.nil);go_simp;(refine hK.out _ _ ?_;clear hK K);refine ze (rs:=[6]) (by kernel_rfl) (by decide) (AllT.consF rfl rfl (fun K hK=>?_) AllT.nil);go_simp;(refine hK.out _ _ ?_;clear hK K);refine zn (by kernel_rfl) (NoPanic.normal ?_) _;go_wp2_with fail;go_ret;obtain⟨r1,r2,r3⟩:=zub q0 (x6 n) (x6 n) 4 4 _ _;exact⟨_,rfl,zkm hn (hx0.trans (by(exact Ext.xt))) r2 r1 r3 (by omega) (by omega) (by omega) (by omega) (by omega) (by omega),hx0.trans (by(exact Ext.xt))⟩
end
end Go.Proofs.YtnadlnmclameiaaGreatDoor
