/- part 32 -/
import Derived.Test.YtnadlnmclameiaaGreatDoorTS31
set_option maxRecDepth 100000
set_option maxHeartbeats 8000000
set_option linter.all false
namespace Go.Proofs.YtnadlnmclameiaaGreatDoor
section
open Go.RowKit
attribute [local go_sem ↓] Go.wp_at_zero Go.wp_at_succ
def zaa:Nat->List UInt8->List (UInt8 × List UInt8) × Nat
 | 0,_=>([],0)
 | f+1,l=>if (zj l).e≠0 then ([],0) else (((zj l).kind,(zj l).data) :: (zaa f (l.drop (zj l).n)).1,(zj l).n+(zaa f (l.drop (zj l).n)).2)
def j6 (l:List UInt8):List (UInt8 × List UInt8) × Nat:=zaa (l.length+1) l
theorem zgd (l:List UInt8) (h:(zj l).e=0):6<=(zj l).n/\(zj l).n<=l.length:=by
 obtain⟨h1,h2,h3⟩:=zew l h;have:=congrArg List.length h3;rw[List.length_take,ko]at this;have:=zq (zj l).data.length;omega
theorem zlv (f:Nat) : ∀ (g:Nat) (l:List UInt8),l.length<f->f<=g->zaa g l=zaa f l:=by
 induction f with
 | zero=>intro g l h;omega
 | succ f ih=>
  intro g l h hg;obtain⟨g,rfl⟩ : ∃ g',g=g'+1:=⟨g-1,by omega⟩
  simp only[zaa];by_cases he:(zj l).e=0
  ·obtain⟨h1,h2⟩:=zgd l he;rw[ih g _ (by rw[List.length_drop];omega) (by omega)]
  ·rw[if_pos he,if_pos he]
theorem zia (l:List UInt8) (h:(zj l).e≠0):j6 l=([],0):=by
 unfold j6 zaa;rw[if_pos h]
theorem zj0 (l:List UInt8) (h:(zj l).e=0):j6 l=(((zj l).kind,(zj l).data) :: (j6 (l.drop (zj l).n)).1,(zj l).n+(j6 (l.drop (zj l).n)).2):=by
 obtain⟨h1,h2⟩:=zgd l h;have e:zaa l.length (l.drop (zj l).n)=j6 (l.drop (zj l).n):=zlv _ _ _ (by omega) (by rw[List.length_drop];omega);conv=>lhs;unfold j6 zaa
 rw[if_neg (by simpa using h),e]
def zbc (gs:List (UInt8 × List UInt8 × Value)):List Value:=gs.flatMap fun g=>[bv g.1,g.2.2]
theorem RdB.grow {w w':World}{v:Value}{l:List UInt8}{row:Option Nat} (h:RdB w v l) (hg:w.grownBy w' row) (hr:0<l.length->∀ k,v.ownBlock=some k->row≠some k):RdB w' v l:=by
 obtain⟨a,cap,rfl,h1,h2,h3,h4⟩:=h;refine⟨a,cap,rfl,h1,h2,h3,fun hn=>?_⟩;obtain⟨g,o,rfl,hgl,hc⟩:=h4 hn;refine⟨g,o,rfl,Nat.lt_of_lt_of_le hgl hg.size,fun j hj=>?_⟩;rw[zbe (hg.block g hgl (fun e=>hr hn g rfl e.symm)),hc j hj]
theorem zkr:(Tryz.prog.info? 80).map (fun i=>(i.zero,i.size,i.bytes))=some (some (.agg #[.int .u8 0,.slice none 0 0]),2,32):=by kernel_rfl
theorem zog (gs:List (UInt8 × List UInt8 × Value)) (h : ∀ g∈gs,g.2.2.oneCell'=true) : ∀ u∈zbc gs,u.oneCell'=true:=by
 intro u hu;obtain⟨g,hg,hu⟩:=List.mem_flatMap.1 hu;simp only[List.mem_cons,List.not_mem_nil,or_false]at hu;rcases hu with rfl|rfl
 ·rfl
 ·exact h g hg
theorem zpo (w:World) (g:Nat) (k:UInt8) (dv:Value) (hg:w.heap.size=g) (hone:dv.oneCell'=true):Src Tryz.prog 2 81 (.slice (some ⟨g,0,none⟩) 1 1) 1 [bv k,dv] (w.alloc (.cells #[.int .u8 ((k.toNat:Nat):Int),dv] 80)):=by
 subst hg;refine Src.ofSlice _ Tryz.underlying81 ⟨w.heap.size,0,none⟩ 1 1 [bv k,dv] rfl (fun j u hu=>?_) (fun u hu=>?_)
 ·match j with
  | 0=>simp[bv]at hu;subst hu;simp[Addr.add,go_sem]
  | 1=>simp at hu;subst hu;simp[Addr.add,go_sem]
  | j+2=>simp at hu
 ·simp only[List.mem_cons,List.not_mem_nil,or_false]at hu;rcases hu with rfl|rfl
  ·rfl
  ·exact hone
end
section
open Go.RowKit
def stallF (fs:List (UInt8 × List UInt8)):List UInt8:=fs.flatMap fun f=>putF f.1 f.2
theorem zi4 (fs:List (UInt8 × List UInt8)) (f:UInt8 × List UInt8):stallF (fs++[f])=stallF fs++putF f.1 f.2:=by simp[stallF]
theorem zpv (fs:List (UInt8 × List UInt8)) (h : ∀ f∈fs,f.2.length<=2000):j6 (stallF fs)=(fs,(stallF fs).length):=by
 induction fs with
 | nil=>exact zia [] (by decide)
 | cons f fs ih=>
  have e:stallF (f :: fs)=putF f.1 f.2++stallF fs:=by simp[stallF]
  have hf:=zc4 f.1 f.2 (stallF fs) (h f (by simp));rw[e,zj0 _ (by rw[hf]),hf];dsimp only;rw[List.drop_left,ih (fun g hg=>h g (by simp[hg])),List.length_append]
end
section
open Go.RowKit Go.Maps
abbrev SFr:=UInt8 × List UInt8
def rU8:Rdr UInt8 where
 size:=1
 rd _ _ cs n:=cs=[.int .u8 ((n.toNat:Nat):Int)]
 len h:=by rw[h];rfl
 one h u hu:=by rw[h]at hu;obtain rfl:=List.mem_singleton.1 hu;rfl
 keep h _ _ _:=h
def rSf:Rdr SFr:=ke rU8 rBs
theorem zpu (w:World) (kind:UInt8) (dv:Value) (data:List UInt8) (hd:RdB w dv data) (hl:data.length<=1000000) :
  Calls Tryz.prog 50 #[.agg #[.int .u8 ((kind.toNat:Nat):Int),dv]] w fun e w'=>∃ v',e = .returned (.agg #[.int .u8 ((kind.toNat:Nat):Int),v'])/\OwnB w' w.heap.size v' data/\Ext w w':=by
 have HD:=hid hd;obtain⟨a,c,rfl,-⟩:=id hd;clear hd;go_enter Tryz.func50,Tryz.ntmps50;go_wp2_with fail;obtain⟨gb,hgb⟩ : ∃ gb,gb=w.heap.size:=⟨_,rfl⟩
 obtain⟨gr,hgr⟩ : ∃ gr,gr=w.heap.size+1:=⟨_,rfl⟩
 obtain⟨w1,hw1⟩ : ∃ w1,w1=((w.alloc (.cells #[.int .u8 ((kind.toNat:Nat):Int),.slice a data.length c] 80)).alloc (.cells #[.int .u8 0,.slice none 0 0] 80)):=⟨_,rfl⟩
 have hx1:Ext w w1:=by rw[hw1];exact((Ext.refl _).alloc _).alloc _
 have hb1:w1.heap[gb]? = some (.cells #[.int .u8 ((kind.toNat:Nat):Int),.slice a data.length c] 80 (0,0)):=by
  rw[hw1,hgb];exact(Below.heap_alloc _ _ _ (by simp)).trans (heap_alloc_new _ _)
 have hr1:w1.heap[gr]? = some (.cells #[.int .u8 0,.slice none 0 0] 80 (0,0)):=by
  rw[hw1,hgr];have:=heap_alloc_new (w.alloc (.cells #[.int .u8 ((kind.toNat:Nat):Int),.slice a data.length c] 80)) (.cells #[.int .u8 0,.slice none 0 0] 80);rw[World.size_alloc]at this;exact this
 have hlt1:gr<w1.heap.size:=(blt hr1)
 rw[<-hw1,<-hgr,<-hgb];have c0:w1.cell? ⟨gb,0,none⟩=some (.int .u8 ((kind.toNat:Nat):Int)):=(cr 0 hb1)
 have c1:w1.cell? ⟨gb,1,none⟩=some (.slice a data.length c):=(cr 1 hb1)
 have HX1:=hid hx1;have HR1:=hid hr1;have HGR:=hid (show w.heap.size<=gr/\gb<gr by omega);clear hw1 hgb hgr hb1 hr1 hx1;have hxd:Ext w1 w1.drew:=(Ext.refl _).drew;refine zr (fun w'=>w'.cell? ⟨gb,0,none⟩=some (.int .u8 ((kind.toNat:Nat):Int))/\w'.cell? ⟨gb,1,none⟩=some (.slice a data.length c)) [6] (by kernel_rfl) ⟨Ext.cellS hxd c0,Ext.cellS hxd c1⟩ (fun hS=>?_);(refine za 0 rfl ?_;(try simp only[Act.put,tq0,tq1,tq2,tq3,tq4,tq5]));(refine za 1 rfl ?_;(try simp only[Act.put,tq0,tq1,tq2,tq3,tq4,tq5]));(refine za 2 rfl ?_;(try simp only[Act.put,tq0,tq1,tq2,tq3,tq4,tq5]));(refine za 3 rfl ?_;(try simp only[Act.put,tq0,tq1,tq2,tq3,tq4,tq5]));refine ze (rs:=[4]) (by kernel_rfl) (by decide) (AllT.consS rfl (fun K hK=>?_) AllT.nil);go_simp;refine(zbg w1.drew _ data (HD.out.ext (HX1.out.trans hxd)) (by omega)).mono ?_;rintro e w2 ⟨v2,rfl,ho2,hb2⟩;have hx2:Ext w1 w2:=hxd.trans (Ext.of hb2);obtain⟨a2,c2,rfl⟩:=ho2.slice;(refine hK.out _ _ (⟨Ext.cellS hx2 c0,Ext.cellS hx2 c1⟩) (fun hS=>?_);clear hK K);have hr2:=yy hx2 HR1.out;have f0:=zg hr2 0;have f1:=zg hr2 1;have d0:w2.cell? ⟨gr,0,none⟩=some (.int .u8 0):=(cr 0 hr2)
 have d1:w2.cell? ⟨gr,1,none⟩=some (.slice none 0 0):=(cr 1 hr2)
 have hr2w:=hr2;have HR2:=hid hr2;have HO2:=hid ho2;have HX2:=hid hx2;clear ho2 hb2 hx2 hr2w hr2;(refine za 5 rfl ?_;(try simp only[Act.put,tq0,tq1,tq2,tq3,tq4,tq5]));refine ze (rs:=[6]) (by kernel_rfl) (by decide) (AllT.consF rfl rfl (fun K hK=>?_) AllT.nil);go_simp;(refine hK.out _ _ ?_;clear hK K);refine zn (by kernel_rfl) (NoPanic.normal ?_) _;clear f0 f1 d0 d1;have hr3:=zw (o:=1) (zw (o:=0) HR2.out (.int .u8 ((kind.toNat:Nat):Int))) (.slice a2 data.length c2);have hk3:Keep (fun j=>j≠gr) w2 ((w2.setCell ⟨gr,0,none⟩ (.int .u8 ((kind.toNat:Nat):Int))).setCell ⟨gr,1,none⟩ (.slice a2 data.length c2)):=((Keep.refl _ _).setCell (by simp) _).setCell (by simp) _;obtain⟨w3,hw3⟩ : ∃ w3,w3=((w2.setCell ⟨gr,0,none⟩ (.int .u8 ((kind.toNat:Nat):Int))).setCell ⟨gr,1,none⟩ (.slice a2 data.length c2)):=⟨_,rfl⟩
 rw[<-hw3]at hr3 hk3 ⊢;have HR3:=hid hr3;have HK3:=hid hk3;clear hr3 hk3 hw3;go_wp2_with fail;refine bodyPost_ret (v:=.agg #[.int .u8 ((kind.toNat:Nat):Int),.slice a2 data.length c2]) (results_cell_row rfl _ _ gr 80 #[.int .u8 ((kind.toNat:Nat):Int),.slice a2 data.length c2] (0,0) _ rfl HR3.out Tryz.underlying80 rfl (by kernel_rfl)) rfl ?_;have hz:=HX1.out.size;refine⟨_,rfl,j4 (bt HO2.out (HK3.out.mono fun j hj _ e=>?_)) (by simpa using hz),?_⟩
 ·have h1:=(World.ownsRow.lt HO2.out j hj).1;have h2:gr<w1.drew.heap.size:=by simpa using hlt1
  omega
 ·exact(((HX1.out.trans HX2.out).keep (fun j=>j<w.heap.size)).trans (HK3.out.mono fun j hj _=>(by have:=HGR.out.1;omega:j≠gr))).mono (fun j _ hl=>hl) |>.ext
end
section
open Go.RowKit
def OwnZ (w:World) (base:Nat) (v:Value) (fs:List (UInt8 × List UInt8)):Prop:=
 ∃ gs:List (UInt8 × List UInt8 × Value),fs=gs.map (fun g=>(g.1,g.2.1))/\w.ownsRow base 80 2 v gs.length (zbc gs)/\
  ∀ g∈gs,RdB w g.2.2 g.2.1/\(0<g.2.1.length->∀ k,g.2.2.ownBlock=some k->v.ownBlock≠some k/\base<=k)
theorem OwnZ.nil (w:World) (base:Nat):OwnZ w base (.slice none 0 0) []:=⟨[],rfl,World.ownsRow_nil _ _ _ _,by simp⟩
theorem OwnZ.below {w w':World}{base:Nat}{v:Value}{fs:List (UInt8 × List UInt8)} (h:OwnZ w base v fs) (hb:Below w.heap.size w w'):OwnZ w' base v fs:=by
 obtain⟨gs,h1,h2,h3⟩:=h;exact⟨gs,h1,zae h2 hb,fun g hg=>⟨(h3 g hg).1.below hb,(h3 g hg).2⟩⟩
theorem OwnZ.slice {w:World}{base:Nat}{v:Value}{fs:List (UInt8 × List UInt8)} (h:OwnZ w base v fs) : ∃ a c,v = .slice a fs.length c:=by
 obtain⟨gs,rfl,h2,h3⟩:=h;rcases h2.2 with⟨rfl,h2⟩|⟨g,cap,cur,rfl,_⟩
 ·exact⟨none,0,by rename_i h0;simp[h0]⟩
 ·exact⟨_,_,by rw[List.length_map]⟩
theorem OwnZ.lt {w:World}{base:Nat}{v:Value}{fs:List (UInt8 × List UInt8)} (h:OwnZ w base v fs) (k:Nat) (hk:v.ownBlock=some k):base<=k/\k<w.heap.size:=by
 obtain⟨gs,rfl,h2,h3⟩:=h;exact h2.lt k hk
theorem zjn {w:World}{ops:Array Oper}{rest:List Oper}{o:Oper}{a:Act}{Q:Exit->Act->World->Prop} (hgd:o.guard=none) (s x:Operand) (tx:TypeId)
  (ho:o.op = .call { callee:=.builtin .append,args:=#[s,x],argTypes:=#[81,tx] }) (base:Nat)
  (v:Value) (fs:List (UInt8 × List UInt8)) (hs:a.eval s=v) (happ:OwnZ w base v fs)
  (y:Value) (k:UInt8) (dv:Value) (l:List UInt8) (hx:a.eval x=y) (hsrc:Src Tryz.prog 2 tx y 1 [bv k,dv] w) (hrd:RdB w dv l)
  (hne:0<l.length->∀ b,dv.ownBlock=some b->v.ownBlock≠some b) (hge:0<l.length->∀ b,dv.ownBlock=some b->base<=b)
  (hbytes:(fs.length+1)*32<=140737488355328) (hbase:base<=w.heap.size)
  (h : ∀ v' w',OwnZ w' base v' (fs++[(k,l)])->w.grownBy w' v.ownBlock->Below base w w'->(∀ k,v'.ownBlock=some k->v.ownBlock=some k\/w.heap.size<=k)->wpList Tryz.prog ops Q rest (a.put o.dst v') w'):wpList Tryz.prog ops Q (o :: rest) a w:=by
 obtain⟨i0,hi,hz0,hz1,hz2⟩:=info_parts zkr;obtain⟨gs,rfl,g2,g3⟩:=happ;rw[List.length_map]at hbytes;have hone:dv.oneCell'=true:=by obtain⟨a,c,rfl,_⟩:=hrd;rfl
 refine wpList_plain hgd fun _ hK=>ka s x 81 tx ho base 80 i0 (.agg #[.int .u8 0,.slice none 0 0]) 2 32 Tryz.underlying81 hi hz0 hz1 hz2 rfl v gs.length (zbc gs) hs (.inl g2) (zog gs fun g hg=>by obtain⟨a,c,e,_⟩:=(g3 g hg).1;rw[e];rfl) y 1 [bv k,dv] hx hsrc (by omega) (by omega) hbase ?_;intro v' w' h1 h2 h3 h4 h5 h6;refine hK _ _ (h v' w' ⟨gs++[(k,l,dv)],by simp,?_,fun g hg=>?_⟩ h4 h5 h6)
 ·have:=h2 (by omega);have e:zbc (gs++[(k,l,dv)])=zbc gs++[bv k,dv]:=by simp[zbc]
  rw[e,List.length_append];exact this
 ·have all:RdB w g.2.2 g.2.1/\(0<g.2.1.length->∀ k,g.2.2.ownBlock=some k->v.ownBlock≠some k/\base<=k):=by
   rcases List.mem_append.1 hg with hg|hg
   ·exact g3 g hg
   ·obtain rfl:=List.mem_singleton.1 hg;exact⟨hrd,fun hn b hb=>⟨hne hn b hb,hge hn b hb⟩⟩
  refine⟨all.1.grow h4 fun hn b hb=>(all.2 hn b hb).1,fun hn b hb=>⟨fun hv=>?_,(all.2 hn b hb).2⟩⟩;rcases h6 b hv with hh|hh
  ·exact(all.2 hn b hb).1 hh
  ·have:=Rd.block_lt all.1 hn b hb;omega
def ztz (l:List UInt8) (w:World) (e:Ending) (w':World):Prop:=
 ∃ v',e = .returned (.tuple #[v',.int .i64 (((j6 l).2:Nat):Int)])/\OwnZ w' w.heap.size v' (j6 l).1/\Below w.heap.size w w'
theorem zrc (w:World) (v:Value) (l:List UInt8) (hv:RdB w v l) (hl:l.length<=4398046511104) :
  Calls Tryz.prog 67 #[v] w (ztz l w):=by
 have HV:=hid hv;obtain⟨a,cap,rfl,h1,h2,h3,h4⟩:=id hv;have h2:cap<=9223372036854775807:=by unfold maxLen at h2;omega
 clear h3 h4 hv;have HN:Hid (OwnZ w w.heap.size (.slice none 0 0) []):=OwnZ.nil _ _;go_enter Tryz.func67,Tryz.ntmps67;go_wp2_with fail;go_loopw [4,5] (fun u at_ wr=>∃ k fs,k<=l.length/\at_ = .int .i64 (k:Nat)/\j6 l=(fs++(j6 (l.drop k)).1,k+(j6 (l.drop k)).2)/\fs.length*6<=k/\OwnZ wr w.heap.size u fs/\Below w.heap.size w wr) (fun _ at_ _=>l.length-(intOf at_).toNat);case atStart=>exact⟨0,[],by omega,rfl,by simp,by simp,HN.out,Below.refl _ _⟩
 case round=>
  obtain⟨k,fs,hk,rfl,heq,hf6,hown,hbel⟩:=hrel;have HE:=hid heq;have HO:=hid hown;have hbs:=hbel.size;have HVr:=hid (HV.out.below hbel);have HD:=hid (RdB.drop HVr.out k hk);have hlen:(l.drop k).length=l.length-k:=by simp
  rw[<-hlen]at HD;obtain⟨af,cf,rfl⟩:=hown.slice;clear heq hown;by_cases he:(zj (l.drop k)).e=0
  ·have hok:=zj0 _ he;obtain⟨n1,n2⟩:=zgd _ he;generalize hF:zj (l.drop k)=F at he hok n1 n2;obtain⟨fk,fd,fn,fe⟩:=F;dsimp only at he hok n1 n2;subst he;have HF:=hid hF;have HK:=hid hok;clear hF hok;go_wp2_with (first|((with_reducible refine yo ?_);go_must (refine yf rfl rfl Tryz.underlying33 qe rfl rfl k rfl ?_ ?_;omega))|(go_at_call 116;rw[<-hlen];go_must (refine(zbf _ _ (l.drop k) HD.out (by omega)).mono ?_;rw[HF.out];rintro e w8 ⟨dv,rfl,hod,hb8⟩;obtain⟨da,dc,rfl⟩:=hod.slice;dsimp only at hod;have HOD:=hid hod;have HO8:=hid (HO.out.below hb8);have hbel8:=hid (hbel.trans (hb8.mono hbs));have hs8:=hb8.size;have HO9:=hid ((HO8.out.below ((Below.refl w8.heap.size w8).alloc (Nat.le_refl _) (.cells #[.int .u8 ((fk.toNat:Nat):Int),.slice da fd.length dc] 80))).below ((Below.refl _ _).alloc (Nat.le_refl _) (.cells #[.int .u8 ((fk.toNat:Nat):Int),.slice da fd.length dc] 80)));have HD9:=hid (((zk HOD.out).alloc (.cells #[.int .u8 ((fk.toNat:Nat):Int),.slice da fd.length dc] 80)).alloc (.cells #[.int .u8 ((fk.toNat:Nat):Int),.slice da fd.length dc] 80));have HS9:=hid (zpo (w8.alloc (.cells #[.int .u8 ((fk.toNat:Nat):Int),.slice da fd.length dc] 80)) (w8.heap.size+1) fk (.slice da fd.length dc) (by simp) rfl);clear hod))|(at_builtin;go_must (refine zjn rfl _ _ _ rfl w.heap.size _ fs rfl HO9.out _ fk (.slice da fd.length dc) fd rfl HS9.out HD9.out (fun hn b hb hv=>by have h1:=(HOD.out.lt b hb).1;have h2:=(HO.out.lt b hv).2;omega) (fun hn b hb=>Nat.le_trans hbs (HOD.out.lt b hb).1) (by omega) (by simp;omega) ?_;intro v9 w9 k1 k4 k5 k6)))
   go_roundw;case rel=>
    refine⟨k+fn,fs++[(fk,fd)],by simp at n2;omega,by go_num,?_,by simp;omega,k1,?_⟩
    ·rw[HE.out,HK.out,List.drop_drop];simp[Nat.add_assoc]
    ·exact(hbel8.out.alloc (by omega) _ |>.alloc (by simp;omega) _).trans k5
   case measure=>simp[intOf];simp at n2;omega
  ·have hbad:=zia _ he;have hn0:=(zd0 _ he).1;generalize hF:zj (l.drop k)=F at he hn0;obtain⟨fk,fd,fn,fe⟩:=F;dsimp only at he hn0;subst hn0;have HF:=hid hF;have HK:=hid hbad;clear hF hbad;have he1 : ¬ ((fe:Int)=0):=by omega
   have he2:((fe:Int) == 0)=false:=by simp;omega
   have he3:((fe:Int) != 0)=true:=by simp;omega
   go_wp2_with (first|((with_reducible refine yo ?_);go_must (refine yf rfl rfl Tryz.underlying33 qe rfl rfl k rfl ?_ ?_;omega))|(go_at_call 116;rw[<-hlen];go_must (refine(zbf _ _ (l.drop k) HD.out (by omega)).mono ?_;rw[HF.out];rintro e w8 ⟨dv,rfl,hod,hb8⟩;obtain⟨da,dc,rfl⟩:=hod.slice;dsimp only at hod;have HO8:=hid (HO.out.below hb8);have hbel8:=hid (hbel.trans (hb8.mono hbs));have hs8:=hb8.size;clear hod)))
   go_ret2;refine⟨_,by rw[HE.out,HK.out];rfl,?_,hbel8.out.alloc (by omega) _⟩;rw[HE.out,HK.out];simpa using HO8.out.below ((Below.refl _ _).alloc (Nat.le_refl _) _)
theorem zop (gs:List (UInt8 × List UInt8 × Value)):cellsOf (gs.map fun g=>([Value.int .u8 ((g.1.toNat:Nat):Int),g.2.2],((g.1,g.2.1):SFr)))=zbc gs:=by
 unfold cellsOf zbc;rw[List.flatMap_map];rfl
theorem OwnZ.rdS {w:World}{base:Nat}{v:Value}{fs:List (UInt8 × List UInt8)} (h:OwnZ w base v fs):RdS rSf w (fun k=>base<=k) v fs:=by
 obtain⟨gs,h1,h2,h3⟩:=h;refine⟨v,gs.map fun g=>([.int .u8 ((g.1.toNat:Nat):Int),g.2.2],(g.1,g.2.1)),rfl,by rw[h1,List.map_map];rfl,?_,fun _ k hk=>(h2.lt k hk).1,fun p hp=>?_⟩
 ·rw[zop,List.length_map];exact za9 h2
 ·obtain⟨g,hg,rfl⟩:=List.mem_map.1 hp;exact⟨[.int .u8 ((g.1.toNat:Nat):Int)],[g.2.2],rfl,rfl,g.2.2,rfl,(h3 g hg).1,fun hn k hk=>((h3 g hg).2 hn k hk).2⟩
end
abbrev Ent:=Int × (ByteArray × (Int × Ev))
abbrev Apd:=Int × (Int × (Int × Bool))
structure Ix where
 all:List Ent
 str:ByteArray->List Int
 key:ByteArray->Option (ByteArray × Apd)
def ix0:Ix:=⟨[],fun _=>[],fun _=>none⟩
def kc (s k:ByteArray):Bool:=yn s && decide (k.size<=60)
def qs (l:List Ev):Bool:=l.all evOk && decide (1<=l.length/\l.length<=16)
def app0:Apd:=(0,0,0,false)
def bat0:Bat:=(⟨#[]⟩,⟨#[]⟩,0,[])
def tryF (x:Ix) (s:ByteArray) (n:Int) (k:ByteArray) (l:List Ev):Apd × (Bat × Nat):=
 if kc s k=false then (app0,bat0,100)
 else match x.key k with
  | some (t,a)=>if t≠s then (app0,bat0,101) else ((a.1,a.2.1,a.2.2.1,true),bat0,0)
  | none=>if qs l=false then (app0,bat0,102) else if n < -1 then (app0,bat0,1) else if 0<=n/\n≠((x.str s).length:Int) then (app0,bat0,103)
   else ((((x.str s).length:Int),(x.all.length:Int),(l.length:Int),false),(s,k,((x.str s).length:Int),l),0)
def zdv (x:Ix) (s:ByteArray):Ix:={ x with str:=fun t=>if t=s then x.str s++[(x.all.length:Int)] else x.str t }
def zfh (x:Ix) (s:ByteArray) (n:Int) (e:Ev):Ix:={ x with all:=x.all++[((x.all.length:Int),s,n,e)] }
def addE (s:ByteArray) (x:Ix) (n:Int) (e:Ev):Ix:=zfh (zdv x s) s n e
def vj (s:ByteArray):Ix->Int->List Ev->Ix
 | x,_,[]=>x
 | x,n,e :: l=>vj s (addE s x n e) (n+1) l
def ji (x:Ix) (k s:ByteArray) (f:Int) (c:Nat):Ix:=if k=⟨#[]⟩ then x else { x with key:=fun t=>if t=k then some (s,f,(x.all.length:Int),(c:Int),false) else x.key t }
def addF (x:Ix) (b:Bat):Ix × Nat:=
 if kc b.1 b.2.1=false then (x,100)
 else if (x.key b.2.1).isSome=true then (x,101)
 else if qs b.2.2.2=false then (x,102)
 else if b.2.2.1≠((x.str b.1).length:Int) then (x,103)
 else (vj b.1 (ji x b.2.1 b.1 b.2.2.1 b.2.2.2.length) b.2.2.1 b.2.2.2,0)
theorem zab {l:List Ev} (h:qs l=true):(∀ e∈l,evOk e=true)/\1<=l.length/\l.length<=16:=by
 unfold qs at h;rw[Bool.and_eq_true,List.all_eq_true,decide_eq_true_eq]at h;exact h
theorem ze4 (s:ByteArray) : ∀ (l:List Ev) (x:Ix) (n:Int),(vj s x n l).all.length=x.all.length+l.length:=by
 intro l;induction l with
 | nil=>intro x n;rfl
 | cons e l ih=>intro x n;rw[vj,ih];simp[addE,zfh,zdv];omega
theorem zq3 (s:ByteArray) : ∀ (l:List Ev) (x:Ix) (n:Int) (t:ByteArray),((vj s x n l).str t).length=(x.str t).length+if t=s then l.length else 0:=by
 intro l;induction l with
 | nil=>intro x n t;simp[vj]
 | cons e l ih=>
  intro x n t;rw[vj,ih];by_cases h:t=s
  ·simp[addE,zfh,zdv,h];omega
  ·simp[addE,zfh,zdv,h]
theorem zcr (x:Ix) (k s:ByteArray) (f:Int) (c:Nat):(ji x k s f c).all=x.all:=by unfold ji;split <;> rfl
theorem zir (x:Ix) (k s:ByteArray) (f:Int) (c:Nat):(ji x k s f c).str=x.str:=by unfold ji;split <;> rfl
section
open Go.RowKit
def rF:Rdr Fld:=ke rS (ke rBo (ke rI rS))
def rE:Rdr Ev:=ke rS (ke rI (rSl rF))
section
variable {w:World}{S:Nat->Prop}{v:Value}
theorem zke {cs:List Value}{f:Fld} (h:rF.rd w S cs f):cs=[.string f.1,.bool f.2.1,.int .i64 f.2.2.1,.string f.2.2.2]/\f.1.size<=9223372036854775807/\fldI f/\f.2.2.2.size<=9223372036854775807:=by
 obtain⟨c1,c2,rfl,⟨rfl,h1⟩,c3,c4,rfl,h2,c5,c6,rfl,⟨rfl,h3⟩,⟨rfl,h4⟩⟩:=h;have h2:c3=[.bool f.2.1]:=h2;subst h2;exact⟨rfl,h1,h3,h4⟩
theorem zf4 {cs:List Value}{e:Ev} (h:rE.rd w S cs e) : ∃ fv,cs=[.string e.1,.int .i64 e.2.1,fv]/\e.1.size<=9223372036854775807/\(-9223372036854775808<=e.2.1/\e.2.1<=9223372036854775807)/\RdS rF w S fv e.2.2:=by
 obtain⟨c1,c2,rfl,⟨rfl,h1⟩,c3,c4,rfl,⟨rfl,h2⟩,h3⟩:=h;obtain⟨fv,gs,e4,h4⟩:=id h3;subst e4;exact⟨fv,rfl,h1,h2,h3⟩
theorem RdS.atF {fs:List Fld} (h:RdS rF w S v fs) (i:Nat) (hi:i<fs.length) :
  ∃ g o cap,v = .slice (some ⟨g,o,none⟩) fs.length cap/\g<w.heap.size/\S g/\w.cell? ⟨g,o+i*4,none⟩=some (.string fs[i].1)/\w.cell? ⟨g,o+i*4+1,none⟩=some (.bool fs[i].2.1)/\
   w.cell? ⟨g,o+i*4+2,none⟩=some (.int .i64 fs[i].2.2.1)/\w.cell? ⟨g,o+i*4+3,none⟩=some (.string fs[i].2.2.2)/\fs[i].1.size<=9223372036854775807/\fldI fs[i]/\fs[i].2.2.2.size<=9223372036854775807:=by
 obtain⟨g,o,cap,cs,rfl,hg,hS,_,hc,hr⟩:=h.at i hi;obtain⟨rfl,h1,h2,h3⟩:=zke hr;refine⟨g,o,cap,rfl,hg,hS,hc 0 _ rfl,?_,?_,?_,h1,h2,h3⟩
 ·rw[Nat.add_assoc];exact hc 1 _ rfl
 ·rw[Nat.add_assoc];exact hc 2 _ rfl
 ·rw[Nat.add_assoc];exact hc 3 _ rfl
theorem RdS.atE {es:List Ev} (h:RdS rE w S v es) (i:Nat) (hi:i<es.length) :
  ∃ g o cap fv,v = .slice (some ⟨g,o,none⟩) es.length cap/\g<w.heap.size/\S g/\w.cell? ⟨g,o+i*3,none⟩=some (.string es[i].1)/\w.cell? ⟨g,o+i*3+1,none⟩=some (.int .i64 es[i].2.1)/\
   w.cell? ⟨g,o+i*3+2,none⟩=some fv/\es[i].1.size<=9223372036854775807/\(-9223372036854775808<=es[i].2.1/\es[i].2.1<=9223372036854775807)/\RdS rF w S fv es[i].2.2:=by
 obtain⟨g,o,cap,cs,rfl,hg,hS,_,hc,hr⟩:=h.at i hi;obtain⟨fv,rfl,h1,h2,h3⟩:=zf4 hr;refine⟨g,o,cap,fv,rfl,hg,hS,hc 0 _ rfl,?_,?_,h1,h2,h3⟩
 ·rw[Nat.add_assoc];exact hc 1 _ rfl
 ·rw[Nat.add_assoc];exact hc 2 _ rfl
end
theorem zap {a b:Bool} (h:a=b):Ending.returned (.bool a) = .returned (.bool b):=by rw[h]
theorem zc7 {s:ByteArray} (h:s.size=0):s.toList=[]:=by
 rw[ByteArray.toList_eq];exact List.eq_nil_of_length_eq_zero (by rw[Array.length_toList];exact h)
theorem zc8 {s:ByteArray} (h:s.size≠0):s.toList.isEmpty=false:=by
 rw[ByteArray.toList_eq];have:s.data.toList.length≠0:=by rw[Array.length_toList];exact h
 cases hh:s.data.toList with
 | nil=>rw[hh]at this;simp at this
 | cons a l=>rfl
theorem zfb {s:ByteArray} (h:s.size≠0) : ¬ s.toList=[]:=fun e=>by
 have:=zc8 h;rw[e]at this;simp at this
theorem qf (w:World) (s:ByteArray) (hs:s.size<=9223372036854775807):Calls Tryz.prog 42 #[.string s] w fun e w'=>e = .returned (.bool (yn s))/\w=w':=by
 by_cases h:s.size=0
 ·have h1:=zc7 h;have HN:=hid (show yn s=false by unfold yn;rw[decide_eq_false];omega);clear h;go_enter Tryz.func42,Tryz.ntmps42;go_wp2_with fail;go_ret;exact⟨by rw[HN.out];rfl,rfl⟩
 ·have h1:=zc8 h;have h2:=zfb h;have HN:=hid (show yn s=decide ((s.size:Int)<=60) by unfold yn;rw[Bool.eq_iff_iff];simp;omega);clear h;go_enter Tryz.func42,Tryz.ntmps42;go_wp2_with fail;go_ret;exact⟨zap HN.out.symm,rfl⟩
end
section
open Go.RowKit
theorem zm1:(Tryz.prog.info? 120).map (fun i=>(i.zero,i.size,i.bytes))=some (some (.agg #[.string ⟨#[]⟩,.bool false,.int .i64 0,.string ⟨#[]⟩]),4,48):=by kernel_rfl
theorem zm2:(Tryz.prog.info? 58).map (fun i=>(i.zero,i.size,i.bytes))=some (some (.agg #[.string ⟨#[]⟩,.int .i64 0,.slice none 0 0]),3,48):=by kernel_rfl
theorem za6 {α:Type} (r:Rdr α) {w:World}{o:Oper}{a:Act}{K:Act->World->Prop}{Q:Exit->Act->World->Prop} (s x:Operand) (ts tx t:TypeId) (z:Value) (bytes:Nat)
  (ho:o.op = .call { callee:=.builtin .append,args:=#[s,x],argTypes:=#[ts,tx] }) (hts:Tryz.prog.underlying ts=some (.slice t)) (hinfo:(Tryz.prog.info? t).map (fun i=>(i.zero,i.size,i.bytes))=some (some z,r.size,bytes)) (hzs:z.cells.size=r.size) (base:Nat) (S:Nat->Prop)
  (v:Value) (xs:List α) (hs:a.eval s=v) (happ:OwnS r t w base S v xs)
  (y:Value) (gs:List (List Value × α)) (hx:a.eval x=y) (hsrc:Src Tryz.prog r.size tx y gs.length (cellsOf gs) w) (hgs : ∀ p∈gs,r.rd w S p.1 p.2) (hSlt : ∀ k,S k->k<w.heap.size)
  (hbytes:(xs.length+gs.length)*bytes<=140737488355328) (h63:xs.length+gs.length<=9223372036854775807) (hbase:base<=w.heap.size)
  (h : ∀ v' w',OwnS r t w' base S v' (xs++gs.map (·.2))->w.grownBy w' v.ownBlock->(∀ k,v'.ownBlock=some k->v.ownBlock=some k\/w.heap.size<=k)->K (a.put o.dst v') w'):o.wp Tryz.prog a w K Q:=by
 obtain⟨i0,hi,hz0,hz1,hz2⟩:=info_parts hinfo;obtain⟨hs0,rfl,g2,gS,g3⟩:=happ;rw[List.length_map]at hbytes h63;refine ka s x ts tx ho base t i0 z r.size bytes hts hi hz0 hz1 hz2 hzs v hs0.length (cellsOf hs0) hs (.inl g2) (fun u hu=>by obtain⟨p,hp,hu⟩:=List.mem_flatMap.1 hu;exact r.one (g3 p hp) u hu) y gs.length (cellsOf gs) hx hsrc h63 hbytes hbase ?_;intro v' w' h1 h2 h3 h4 h5 h6;refine h v' w' ⟨hs0++gs,by simp,?_,fun k hk hSk=>?_,fun p hp=>?_⟩ h4 h6
 ·rw[List.length_append,show cellsOf (hs0++gs)=cellsOf hs0++cellsOf gs from by simp[cellsOf]];exact h3 g2
 ·rcases h6 k hk with hh|hh
  ·exact gS k hh hSk
  ·have:=hSlt k hSk;omega
 ·have all:r.rd w S p.1 p.2:=by
   rcases List.mem_append.1 hp with hp|hp
   ·exact g3 p hp
   ·exact hgs p hp
  exact r.keep all h4.size (fun k hk hl=>h4.block k hl (fun e=>gS k e.symm hk)) fun _ h _=>h
theorem za7 {w:World}{gb:Nat}{cs:List Value}{t ts:TypeId}{size:Nat} (hts:Tryz.prog.underlying ts=some (.slice t)) (hrow:w.heap[gb]? = some (.cells cs.toArray t (0,0))) (h1 : ∀ u∈cs,u.oneCell'=true) (hl:cs.length=1*size):Src Tryz.prog size ts (.slice (some ⟨gb,0,none⟩) 1 1) 1 cs w:=by
 refine Src.ofSlice _ hts ⟨gb,0,none⟩ 1 1 cs hl (fun j u hu=>?_) h1;rw[show (⟨gb,0,none⟩:Addr).add j=⟨gb,j,none⟩ from by unfold Addr.add;split <;> simp_all,cell_of_row _ _ _ _ _ _ hrow];simpa using hu
theorem zlr {w:World}{ops:Array Oper}{o:Oper}{a:Act}{K:Act->World->Prop}{Q:Exit->Act->World->Prop}{E:Prop} (hgd:o.guard=none) (s x:Operand)
  (ho:o.op = .call { callee:=.builtin .append,args:=#[s,x],argTypes:=#[56,56] }) (base:Nat)
  (v:Value) (xs:List Fld) (hs:a.eval s=v) (happ:OwnS rF 120 w base (fun _=>False) v xs)
  (f:Fld) (h1:f.1.size<=9223372036854775807) (h2:fldI f) (h3:f.2.2.2.size<=9223372036854775807) (gb:Nat) (hx:a.eval x = .slice (some ⟨gb,0,none⟩) 1 1)
  (hrow:w.heap[gb]? = some (.cells #[.string f.1,.bool f.2.1,.int .i64 f.2.2.1,.string f.2.2.2] 120 (0,0))) (hl:xs.length<=1000) (hbase:base<=w.heap.size)
  (h : ∀ v' w',OwnS rF 120 w' base (fun _=>False) v' (xs++[f])->w.grownBy w' v.ownBlock->(∀ k,v'.ownBlock=some k->v.ownBlock=some k\/w.heap.size<=k)->K (a.put o.dst v') w') :
  if Region.wanted o (yielded ops a.tmps)=true then Oper.wp Tryz.prog o a w K Q else E:=by
 have hw:Region.wanted o (yielded ops a.tmps)=true:=by simp[Region.wanted,hgd]
 rw[if_pos hw];refine za6 rF s x 56 56 120 _ 48 ho Tryz.underlying56 zm1 rfl base _ v xs hs happ _ [([.string f.1,.bool f.2.1,.int .i64 f.2.2.1,.string f.2.2.2],f)] hx ?_ ?_ (fun _ h=>h.elim) (by simp;omega) (by simp;omega) hbase ?_
 ·refine za7 Tryz.underlying56 hrow (fun u hu=>?_) rfl;simp only[cellsOf,List.flatMap_cons,List.flatMap_nil,List.append_nil,List.mem_cons,List.not_mem_nil,or_false]at hu;rcases hu with rfl|rfl|rfl|rfl <;> rfl
 ·intro p hp;obtain rfl:=List.mem_singleton.1 hp;exact⟨[_],_,rfl,⟨rfl,h1⟩,[_],_,rfl,rfl,[_],_,rfl,⟨rfl,h2⟩,⟨rfl,h3⟩⟩
 ·intro v' w' k1 k2 k3;exact h v' w' k1 k2 k3
theorem zhy {w:World}{ops:Array Oper}{rest:List Oper}{o:Oper}{a:Act}{Q:Exit->Act->World->Prop} (hgd:o.guard=none) (s x:Operand)
  (ho:o.op = .call { callee:=.builtin .append,args:=#[s,x],argTypes:=#[30,30] }) (base:Nat) (S:Nat->Prop)
  (v:Value) (xs:List Ev) (hs:a.eval s=v) (happ:OwnS rE 58 w base S v xs)
  (e:Ev) (fv:Value) (h1:e.1.size<=9223372036854775807) (h2 : -9223372036854775808<=e.2.1/\e.2.1<=9223372036854775807) (h3:RdS rF w S fv e.2.2) (hfv:fv.oneCell'=true) (gb:Nat) (hx:a.eval x = .slice (some ⟨gb,0,none⟩) 1 1)
  (hrow:w.heap[gb]? = some (.cells #[.string e.1,.int .i64 e.2.1,fv] 58 (0,0))) (hSlt : ∀ k,S k->k<w.heap.size) (hl:xs.length<=1000) (hbase:base<=w.heap.size)
  (h : ∀ v' w',OwnS rE 58 w' base S v' (xs++[e])->w.grownBy w' v.ownBlock->(∀ k,v'.ownBlock=some k->v.ownBlock=some k\/w.heap.size<=k)->wpList Tryz.prog ops Q rest (a.put o.dst v') w'):wpList Tryz.prog ops Q (o :: rest) a w:=by
 refine wpList_plain hgd fun _ hK=>za6 rE s x 30 30 58 _ 48 ho Tryz.underlying30 zm2 rfl base S v xs hs happ _ [([.string e.1,.int .i64 e.2.1,fv],e)] hx ?_ ?_ hSlt (by simp;omega) (by simp;omega) hbase ?_
 ·refine za7 Tryz.underlying30 hrow (fun u hu=>?_) rfl;simp only[cellsOf,List.flatMap_cons,List.flatMap_nil,List.append_nil,List.mem_cons,List.not_mem_nil,or_false]at hu;rcases hu with rfl|rfl|rfl
  ·rfl
  ·rfl
  ·exact hfv
 ·intro p hp;obtain rfl:=List.mem_singleton.1 hp;exact⟨[_],_,rfl,⟨rfl,h1⟩,[_],_,rfl,⟨rfl,h2⟩,h3⟩
 ·intro v' w' k1 k2 k3;exact hK _ _ (h v' w' k1 k2 k3)
end
end Go.Proofs.YtnadlnmclameiaaGreatDoor
