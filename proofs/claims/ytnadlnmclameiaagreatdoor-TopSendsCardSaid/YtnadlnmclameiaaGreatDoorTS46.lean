/- part 46 -/
import Derived.Test.YtnadlnmclameiaaGreatDoorTS45
set_option maxRecDepth 100000
set_option maxHeartbeats 8000000
set_option linter.all false
namespace Go.Proofs.YtnadlnmclameiaaGreatDoor
section
open Go.RowKit Go.Maps Go.Shelf
attribute [local go_sem] Oper.semAt_some
structure StI (w5:World) (C0:Nat->Prop) (gx:Nat) (bs:List Bat) (pre:List ElF) (C:Nat->Prop) (V:World):Prop where
 ix:Idx C V gx (ixB (bs.take pre.length))
 keep:Keep (fun k=>k<w5.heap.size/\¬ C0 k) w5 V
 sub : ∀ k,C k->C0 k\/w5.heap.size<=k
theorem zl0 {b:Bat} (h:putB b=(putBat b,0)):xe b=true:=by
 unfold putB at h;by_cases h1:xe b=false
 ·rw[if_pos h1]at h;simp at h
 ·simpa using h1
theorem zxy {bs:List Bat}{pre:List ElF}{x:ElF} (h:OkF (frsB bs) (pre++[x])) : ∃ h:pre.length<bs.length,x.2.2=((1:UInt8),putBat bs[pre.length]):=by
 unfold OkF at h;rw[zdz]at h;have hl:=h.length_le;rw[List.length_append,List.length_singleton,zcf,show (frs pre).length=pre.length from List.length_map ..]at hl;obtain⟨t,ht⟩:=h;refine⟨by omega,?_⟩;have h1:(frsB bs)[pre.length]? = some x.2.2:=by
  rw[<-ht,List.append_assoc,List.getElem?_append_right (by rw[show (frs pre).length=pre.length from List.length_map ..];exact Nat.le_refl _),show (frs pre).length=pre.length from List.length_map ..,Nat.sub_self];rfl
 have h2:(frsB bs)[pre.length]? = some (1,putBat bs[pre.length]):=by
  unfold frsB;rw[List.getElem?_map,List.getElem?_eq_getElem (by omega)];rfl
 rw[h1]at h2;exact Option.some.inj h2
theorem zjx {w w':World}{Bx q gx bb:Nat}{b:Bat}{ev:Value} (h:w.cell? ⟨Bx,0,none⟩=some (.int .u8 1)/\w.cell? ⟨q+1,0,none⟩=some (.pointer (some ⟨q,0,none⟩))/\w.cell? ⟨q,2,none⟩=some (.pointer (some ⟨gx,0,none⟩))/\w.cell? ⟨bb,0,none⟩=some (.string b.1)/\w.cell? ⟨bb,1,none⟩=some (.string b.2.1)/\w.cell? ⟨bb,2,none⟩=some (.int .i64 b.2.2.1)/\w.cell? ⟨bb,3,none⟩=some ev) {T:Nat->Prop} (hk:Keep T w w') (hT:T Bx/\T (q+1)/\T q/\T bb) :
  w'.cell? ⟨Bx,0,none⟩=some (.int .u8 1)/\w'.cell? ⟨q+1,0,none⟩=some (.pointer (some ⟨q,0,none⟩))/\w'.cell? ⟨q,2,none⟩=some (.pointer (some ⟨gx,0,none⟩))/\w'.cell? ⟨bb,0,none⟩=some (.string b.1)/\w'.cell? ⟨bb,1,none⟩=some (.string b.2.1)/\w'.cell? ⟨bb,2,none⟩=some (.int .i64 b.2.2.1)/\w'.cell? ⟨bb,3,none⟩=some ev:=
 ⟨hk.cell h.1 hT.1,hk.cell h.2.1 hT.2.1,hk.cell h.2.2.1 hT.2.2.1,hk.cell h.2.2.2.1 hT.2.2.2,hk.cell h.2.2.2.2.1 hT.2.2.2,hk.cell h.2.2.2.2.2.1 hT.2.2.2,hk.cell h.2.2.2.2.2.2 hT.2.2.2⟩
theorem StI.stab {w5 V V':World}{C0:Nat->Prop}{gx:Nat}{bs:List Bat}{pre:List ElF}{C:Nat->Prop}{B:Nat} (hB:w5.heap.size<=B) (h:StI w5 C0 gx bs pre C V) (hk:Keep (fun k=>k<B\/C k) V V'):StI w5 C0 gx bs pre C V':=
 ⟨h.ix.keep (hk.mono fun k hk _=>.inr hk),h.keep.trans (hk.mono fun k hk _=>.inl (by omega)),h.sub⟩
theorem zhe {w W:World}{g:Nat}{ρ:Nat->Option DRol}{N:Nat}{d:Dv} (hm:Mine w W g ρ N d) (hN:N<=999500000) (hc:Calm d) (hst:qk d) (hL:d.safe.length=64) {n:Nat} (hn:n<=99999999) (bs:List Bat) (hg:GoodB bs) (hl:bs.length<=4) (hi:FsImg n (curF d) (filB bs)) :
  Calls Tryz.prog 13 #[.pointer (some ⟨g,0,none⟩)] W fun e W'=>∃ q ρ' d' n' U,e = .returned (.tuple #[.pointer (some ⟨q,0,none⟩),.int .i64 0])/\n'<=n+1/\StAt w W' q g ρ' (N+500) d' n' bs U/\Calm d'/\RolNew ρ ρ' W/\Keep (fun j=>ρ j=none) W W'/\∀ j,U j->ρ j≠none\/W.heap.size<=j:=by
 obtain⟨n0,H,res,hn0,hs,hin,hf⟩:=hi;have HM:=hid hm;have HC:=hid hc;have HST:=hid hst;have HL:=hid hL;have HG:=hid hg;have HS:=hid hs;have HIN:=hid hin;have HF:=hid hf;clear hm hc hst hL hg hs hin hf;refine(callsIn_wide (n:=6)).1 (callsIn_of_wp_marks Tryz.func13 rfl trivial ?_ rfl);simp only[Tryz.ntmps13,List.size_toArray,List.length_cons,List.length_nil,Nat.reduceAdd,Nat.reduceSub,Array.replicate_succ,Array.replicate_zero,List.push_toArray,List.append_toArray,List.nil_append,List.cons_append];refine wpIn_wide.2 ?_;go_wp2_with fail;obtain⟨q2,hq2⟩ : ∃ q2,q2=W.heap.size:=⟨_,rfl⟩
 have r2:((W.alloc (.cells #[.pointer none] 26)).alloc (.cells #[.int .i64 0] 37)).heap[q2]? = some (.cells #[.pointer none] 26 (0,0)):=by
  rw[hq2];exact(Below.heap_alloc _ _ _ (by simp)).trans (heap_alloc_new _ _)
 have r3:((W.alloc (.cells #[.pointer none] 26)).alloc (.cells #[.int .i64 0] 37)).heap[q2+1]? = some (.cells #[.int .i64 0] 37 (0,0)):=by
  have:=heap_alloc_new (W.alloc (.cells #[.pointer none] 26)) (.cells #[.int .i64 0] 37);rw[World.size_alloc]at this;rw[hq2];exact this
 have hx0:Ext W ((W.alloc (.cells #[.pointer none] 26)).alloc (.cells #[.int .i64 0] 37)):=((Ext.refl W).alloc _).alloc _;have hz0:((W.alloc (.cells #[.pointer none] 26)).alloc (.cells #[.int .i64 0] 37)).heap.size=q2+2:=by simp[hq2]
 rw[<-hq2];generalize ((W.alloc (.cells #[.pointer none] 26)).alloc (.cells #[.int .i64 0] 37))=w0 at r2 r3 hx0 hz0 ⊢;have R2:=hid r2;have R3:=hid r3;have HX0:=hid hx0;have HZ0:=hid hz0;have HQ2:=hid hq2;have HMT:=hid (zxr (HM.out.ext hx0) (by omega) HC.out HST.out HL.out (by omega:n0<=100000000) HS.out HIN.out HF.out (zvu bs));obtain⟨A,hA⟩ : ∃ A,A=Hn H res:=⟨_,rfl⟩
 rw[<-hA]at HMT HF;clear r2 r3 hx0 hz0 hq2 hA HS HIN;refine HMT.out.mono ?_;rintro e w1 ⟨ρ1,d1,gl,gf,φ1,rfl,hla1,hc1,⟨gc,ga,gm,gt,gn,qn,lv,hfs1⟩,hrn1,hk1,hdis1,hgl1⟩;rw[zvt]at hfs1;have HLA1:=hid hla1;have HC1:=hid hc1;have HFS1:=hid (show FsP w1 φ1 gf gl A { kB bs with q:=0 } gc ga gm gt gn qn lv from hfs1);have HRN1:=hid hrn1;have HK1:=hid hk1;have HDIS1:=hid hdis1;have HGL1:=hid hgl1;have HZ1:=hid hk1.size;clear hla1 hc1 hfs1 hrn1 hk1 hdis1 hgl1 HMT;go_wp2_with fail;have HD1:=hid (show ∀ j,φ1 j≠none->ρ1 j=none/\j≠gl/\w.heap.size<=j from fun j hj=>by
  have h1:=HDIS1.out j hj;have h2:=HM.out.ex.size;have h3:=HX0.out.size;exact⟨h1.1,h1.2.1,by omega⟩)
 refine(zty bs HG.out hl HLA1.out HC1.out (by omega) HFS1.out HD1.out HF.out).mono ?_;rintro e w2 ⟨gs,fv,zv,Sd,d2,φ2,rfl,hsp2,hla2,hc2,hfs2,hst2,hsd2⟩;have HSP2:=hid hsp2;have HLA2:=hid hla2;have HC2:=hid hc2;have HFS2:=hid hfs2;have HST2:=hid hst2;have HSD2:=hid hsd2;have HZ2:=hid hst2.keep.size;clear hsp2 hla2 hc2 hfs2 hst2 hsd2;go_wp2_with fail;refine(zv9 w2).mono ?_;rintro e w3 ⟨gx,rfl,hix3,hx3⟩;have HIX3:=hid hix3;have HX3:=hid hx3;clear hix3 hx3;go_wp2_with fail;obtain⟨q,hq⟩ : ∃ q,q=w3.heap.size:=⟨_,rfl⟩
 have rq:((w3.alloc (.cells #[.pointer (some ⟨gf,0,none⟩),.pointer (some ⟨gs,0,none⟩),.pointer (some ⟨gx,0,none⟩)] 74)).alloc (.cells #[.pointer (some ⟨w3.heap.size,0,none⟩)] 26)).heap[q]? = some (.cells #[.pointer (some ⟨gf,0,none⟩),.pointer (some ⟨gs,0,none⟩),.pointer (some ⟨gx,0,none⟩)] 74 (0,0)):=by
  rw[hq];exact(Below.heap_alloc _ _ _ (by simp)).trans (heap_alloc_new _ _)
 have rb:((w3.alloc (.cells #[.pointer (some ⟨gf,0,none⟩),.pointer (some ⟨gs,0,none⟩),.pointer (some ⟨gx,0,none⟩)] 74)).alloc (.cells #[.pointer (some ⟨w3.heap.size,0,none⟩)] 26)).heap[q+1]? = some (.cells #[.pointer (some ⟨q,0,none⟩)] 26 (0,0)):=by
  have:=heap_alloc_new (w3.alloc (.cells #[.pointer (some ⟨gf,0,none⟩),.pointer (some ⟨gs,0,none⟩),.pointer (some ⟨gx,0,none⟩)] 74)) (.cells #[.pointer (some ⟨w3.heap.size,0,none⟩)] 26);rw[World.size_alloc]at this;rw[hq];exact this
 have hx4:Ext w3 ((w3.alloc (.cells #[.pointer (some ⟨gf,0,none⟩),.pointer (some ⟨gs,0,none⟩),.pointer (some ⟨gx,0,none⟩)] 74)).alloc (.cells #[.pointer (some ⟨w3.heap.size,0,none⟩)] 26)):=((Ext.refl w3).alloc _).alloc _;have hz4:((w3.alloc (.cells #[.pointer (some ⟨gf,0,none⟩),.pointer (some ⟨gs,0,none⟩),.pointer (some ⟨gx,0,none⟩)] 74)).alloc (.cells #[.pointer (some ⟨w3.heap.size,0,none⟩)] 26)).heap.size=q+2:=by simp[hq]
 rw[<-hq];rw[<-hq]at rq rb hx4 hz4;generalize ((w3.alloc (.cells #[.pointer (some ⟨gf,0,none⟩),.pointer (some ⟨gs,0,none⟩),.pointer (some ⟨gx,0,none⟩)] 74)).alloc (.cells #[.pointer (some ⟨q,0,none⟩)] 26))=w4 at rq rb hx4 hz4 ⊢;have RQ:=hid rq;have RB:=hid rb;have HX4:=hid hx4;have HZ4:=hid hz4;have HQ:=hid hq;clear rq rb hx4 hz4 hq;refine(zow w4 _).mono ?_;rintro e w5 ⟨rfl,hw5⟩;have hbx:w5.heap[q+2]? = some (.cells #[.pointer (some ⟨gs,0,none⟩)] 71 (0,0)):=by
  have:=heap_alloc_new w4 (.cells #[.pointer (some ⟨gs,0,none⟩)] 71);rw[HZ4.out]at this;rw[hw5];exact this
 have hx5:Ext w4 w5:=by rw[hw5];exact(Ext.refl w4).alloc _
 have hz5:w5.heap.size=q+3:=by rw[hw5,World.size_alloc,HZ4.out]
 rw[HZ4.out];clear hw5;have HBX:=hid hbx;have HX5:=hid hx5;have HZ5:=hid hz5;clear hbx hx5 hz5;go_wp2_with fail;have hseq:=zmd 5 w5 gs (q+2) (fun k=>Sd k\/fv.ownBlock=some k) fv (frsB bs) ((cr 0 HBX.out))
  (Ext.cellS ((HX3.out.trans HX4.out).trans HX5.out) ((cr 1 HSP2.out.head))) (HSP2.out.frames.rd.ext ((HX3.out.trans HX4.out).trans HX5.out))
  (fun k hk=>by
   have h1:=HSD2.out k (by rcases hk with h|h;exact .inr (.inr (.inr h));exact .inr (.inl h));have h2:=((HX3.out.trans HX4.out).trans HX5.out).size;omega) (by rw[zcf];omega) (fun f hf=>by have:=HG.out.small f hf;omega)
 have HSZ:=hid (show w2.heap.size<=w3.heap.size/\w3.heap.size=q/\w5.heap.size=q+3/\W.heap.size=q2/\w0.heap.size=q2+2/\w0.heap.size<=w1.heap.size/\w1.heap.size<=w2.heap.size from⟨HX3.out.size,HQ.out.symm,HZ5.out,HQ2.out.symm,HZ0.out,HZ1.out,HZ2.out⟩);refine(wpIn_wide (n:=6)).1 ?_;refine zf2 (w0:=w5) rfl (by omega) (gf:=69) (lb:=#[.pointer (some ⟨q+2,0,none⟩)]) rfl trivial (enters_of Tryz.func69 (by kernel_rfl) rfl) (R:=elF) (fun B x A A' h hk=>h.keep hk) hseq
  (fun k hk=>?_) (Ext.refl _) (fun _=>rfl) (fun pre C V=>StI w5 (fun k=>w2.heap.size<=k/\k<w3.heap.size) gx bs pre C V) (fun _ _ _ _=>False) (fun _ _ _ _ h hk=>h.stab (Nat.le_refl _) hk) (fun _ _ _ _ _ h _=>h) (fun k=>w2.heap.size<=k/\k<w3.heap.size) (fun k hk=>?_)
  ⟨HIX3.out.ext (HX4.out.trans HX5.out),Keep.refl _ _,fun k hk=>.inl hk⟩
  (fun x V a₁ V₁=>∃ Bx,V.heap.size<=Bx/\V₁.heap[Bx]? = some (.cells #[.int .u8 ((x.2.2.1.toNat:Nat):Int),x.2.1] 80 (0,0))/\a₁={ tmps:=#[.pointer (some ⟨g,0,none⟩),undef,.pointer (some ⟨q2,0,none⟩),.pointer (some ⟨q2+1,0,none⟩),.pointer (some ⟨gf,0,none⟩),.int .i64 0,.pointer (some ⟨gs,0,none⟩),.pointer (some ⟨q+1,0,none⟩),undef,.pointer (some ⟨Bx,0,none⟩),undef,undef,.tuple #[.pointer (some ⟨gf,0,none⟩),.int .i64 0],.pointer (some ⟨g,0,none⟩),.tuple #[.pointer (some ⟨gf,0,none⟩),.int .i64 0],.pointer (some ⟨gf,0,none⟩),.int .i64 0,.int .i64 0,.bool false,undef,.tuple #[.pointer (some ⟨gs,0,none⟩),.int .i64 0],.pointer (some ⟨gf,0,none⟩),.tuple #[.pointer (some ⟨gs,0,none⟩),.int .i64 0],.pointer (some ⟨gs,0,none⟩),.int .i64 0,.int .i64 0,.bool false,undef,.pointer (some ⟨gf,0,none⟩),.pointer (some ⟨gs,0,none⟩),.pointer (some ⟨gx,0,none⟩),.agg #[.pointer (some ⟨gf,0,none⟩),.pointer (some ⟨gs,0,none⟩),.pointer (some ⟨gx,0,none⟩)],.pointer (some ⟨q,0,none⟩),.pointer (some ⟨gs,0,none⟩),.func (.func 69) #[] #[.pointer (some ⟨q+2,0,none⟩)],.int .i64 x.1,.agg #[.int .u8 ((x.2.2.1.toNat:Nat):Int),x.2.1],undef,undef,undef,undef,undef,undef,undef,undef,undef,undef,undef,undef,undef,undef,undef,undef,undef,undef,undef,undef,undef,undef,undef],defers:=[] }) ?_ ?_ ?_ ?_ ?_
 ·have h1:=HSD2.out k (by rcases hk with h|h;exact .inr (.inr (.inr h));exact .inr (.inl h));have h2:=HSZ.out;omega
 ·have h2:=HSZ.out;refine⟨by omega,fun hc=>?_⟩;have h1:=HSD2.out k (by rcases hc with h|h;exact .inr (.inr (.inr h));exact .inr (.inl h));omega
 ·rintro x V a₁ V₁ V₂ ⟨Bx,k1,k2,k3⟩ hk;exact⟨Bx,k1,(hk.block _ k1 (blt k2)).trans k2,k3⟩
 ·rintro l ⟨xi,xv,xk,xd⟩ V K hel hK;dsimp only[elF]at hel;obtain⟨xa,xc,rfl⟩:=OwnB.slice hel;simp only[encF];gi_wp2
  exact hK _ _ ⟨_,Nat.le_refl _,heap_alloc_new _ _,rfl⟩ ((Ext.refl V).alloc _)
 ·rintro l pre x C V a₁ V₂ hI ⟨Bx,hBx,hrx,rfl⟩ hel p1 p2 p3 hok;obtain⟨hlt,hxe⟩:=zxy hok;obtain⟨xi,xv,xk,xd⟩:=x;simp only[Prod.mk.injEq]at hxe;obtain⟨rfl,rfl⟩:=hxe;obtain⟨b,hb⟩ : ∃ b,b=bs[pre.length]:=⟨_,rfl⟩
  obtain⟨g1,g2,g3⟩:=HG.out.at pre.length hlt;rw[<-hb]at g1 g2 g3 hel hrx;have hbF:=zti b (putBat b) g1 g2;have hle:=zhp g1;dsimp only[elF]at hel;obtain⟨xa,xc,rfl⟩:=OwnB.slice hel;have HEL:=hid hel;have HI:=hid hI;have HRX:=hid hrx;have HBB:=hid hb;have HG3:=hid g3;have HBF:=hid hbF;have HHD:=hid (zai (zl0 g1));have HP3:=hid p3;have hsz:=HSZ.out;have hVs:q+3<=V.heap.size:=by omega
  have x1:V₂.cell? ⟨Bx,1,none⟩=some (.slice xa (putBat b).length xc):=(cr 1 hrx)
  clear hsz hel hI hrx g1 g2 g3 hbF hb p3;gi_wp2
  refine⟨trivial,(CallsIn.inRound l (callsIn_wide.2 (zrq V₂ _ _ (zk HEL.out) (by omega)))).mono ?_⟩;rintro e V3 ⟨-,h2,hx3⟩;rw[HBF.out]at h2;obtain⟨ev,rfl,hev⟩:=h2 rfl;obtain⟨ea,ec,rfl,-,-⟩:=hev.slice;have HEV:=hid hev;have HX3':=hid hx3;clear h2 hev hx3 x1;gi_wp2
  have hxa:=(HX3'.out.alloc (.cells #[.string b.1,.string b.2.1,.int .i64 b.2.2.1,.slice ea b.2.2.2.length ec] 68))
  have rbb:=heap_alloc_new V3 (.cells #[.string b.1,.string b.2.1,.int .i64 b.2.2.1,.slice ea b.2.2.2.length ec] 68);have hza:(V3.alloc (.cells #[.string b.1,.string b.2.1,.int .i64 b.2.2.1,.slice ea b.2.2.2.length ec] 68)).heap.size=V3.heap.size+1:=by simp
  have hxb:Ext V3 (V3.alloc (.cells #[.string b.1,.string b.2.1,.int .i64 b.2.2.1,.slice ea b.2.2.2.length ec] 68)):=(Ext.refl _).alloc _;obtain⟨bb,hbb⟩ : ∃ bb,bb=V3.heap.size:=⟨_,rfl⟩
  rw[<-hbb]at rbb hza ⊢;generalize (V3.alloc (.cells #[.string b.1,.string b.2.1,.int .i64 b.2.2.1,.slice ea b.2.2.2.length ec] 68))=V4 at hxa rbb hza hxb ⊢;have hxd:Ext V4 V4.drew:=(Ext.refl _).drew;have hq:V₂.heap[q]? = _:=(HI.out.keep.block q ⟨by have:=HSZ.out;omega,fun h=>by have:=HSZ.out;have:=h.2;omega⟩ (by have:=HSZ.out;omega)).trans (yy (HX4.out.trans HX5.out |> fun h=>(Ext.refl w4).trans HX5.out) RQ.out);have hq1:V₂.heap[q+1]? = _:=(HI.out.keep.block (q+1) ⟨by have:=HSZ.out;omega,fun h=>by have:=HSZ.out;have:=h.2;omega⟩ (by have:=HSZ.out;omega)).trans (yy HX5.out RB.out);have hS0:V4.cell? ⟨Bx,0,none⟩=some (.int .u8 1)/\V4.cell? ⟨q+1,0,none⟩=some (.pointer (some ⟨q,0,none⟩))/\V4.cell? ⟨q,2,none⟩=some (.pointer (some ⟨gx,0,none⟩))/\V4.cell? ⟨bb,0,none⟩=some (.string b.1)/\V4.cell? ⟨bb,1,none⟩=some (.string b.2.1)/\V4.cell? ⟨bb,2,none⟩=some (.int .i64 b.2.2.1)/\V4.cell? ⟨bb,3,none⟩=some (.slice ea b.2.2.2.length ec):=
   ⟨Ext.cellS hxa ((cr 0 HRX.out)),Ext.cellS hxa ((cr 0 hq1)),Ext.cellS hxa ((cr 2 hq)),(cr 0 rbb),(cr 1 rbb),(cr 2 rbb),(cr 3 rbb)⟩
  have HS0:=hid hS0;have HXD:=hid hxd;have HXA:=hid hxa;have HXB:=hid hxb;have HZA:=hid (show V4.heap.size=bb+1/\V₂.heap.size<=bb from⟨hza,by rw[hbb];exact HX3'.out.size⟩);clear hS0 hxa hxb hza rbb hbb hq hq1;refine zbh (fun w'=>w'.cell? ⟨Bx,0,none⟩=some (.int .u8 1)/\w'.cell? ⟨q+1,0,none⟩=some (.pointer (some ⟨q,0,none⟩))/\w'.cell? ⟨q,2,none⟩=some (.pointer (some ⟨gx,0,none⟩))/\w'.cell? ⟨bb,0,none⟩=some (.string b.1)/\w'.cell? ⟨bb,1,none⟩=some (.string b.2.1)/\w'.cell? ⟨bb,2,none⟩=some (.int .i64 b.2.2.1)/\w'.cell? ⟨bb,3,none⟩=some (.slice ea b.2.2.2.length ec))
   [] (by kernel_rfl) (by rintro ⟨_,_,h⟩;exact h) (by kernel_rfl) (zjx HS0.out (hxd.keep (fun _=>True)) ⟨trivial,trivial,trivial,trivial⟩) (fun hS=>?_)
  (refine za 0 rfl ?_;(try simp only[Act.put,tq0,tq1,tq2,tq3,tq4,tq5]));(refine za 1 rfl ?_;(try simp only[Act.put,tq0,tq1,tq2,tq3,tq4,tq5]));(refine za 2 rfl ?_;(try simp only[Act.put,tq0,tq1,tq2,tq3,tq4,tq5]));(refine za 3 rfl ?_;(try simp only[Act.put,tq0,tq1,tq2,tq3,tq4,tq5]));(refine za 4 rfl ?_;(try simp only[Act.put,tq0,tq1,tq2,tq3,tq4,tq5]));(refine za 5 rfl ?_;(try simp only[Act.put,tq0,tq1,tq2,tq3,tq4,tq5]));(refine za 6 rfl ?_;(try simp only[Act.put,tq0,tq1,tq2,tq3,tq4,tq5]));(refine za 7 rfl ?_;(try simp only[Act.put,tq0,tq1,tq2,tq3,tq4,tq5]));(refine za 8 rfl ?_;(try simp only[Act.put,tq0,tq1,tq2,tq3,tq4,tq5]));(refine za 9 rfl ?_;(try simp only[Act.put,tq0,tq1,tq2,tq3,tq4,tq5]));(refine za 10 rfl ?_;(try simp only[Act.put,tq0,tq1,tq2,tq3,tq4,tq5]));(refine za 11 rfl ?_;(try simp only[Act.put,tq0,tq1,tq2,tq3,tq4,tq5]));(refine za 12 rfl ?_;(try simp only[Act.put,tq0,tq1,tq2,tq3,tq4,tq5]));refine ze (rs:=[13]) (by kernel_rfl) (by decide) (AllT.consS rfl (fun K hK=>?_) AllT.nil);go_simp;have hstr:=(HG.out.take pre.length).reach.str b.1;have hall:(ixB (bs.take pre.length)).all.length<=64:=by
   have:=zat (bs.take pre.length);rw[List.length_take]at this;omega
  have hhd:=HHD.out;refine(zne V4.drew C gx (ixB (bs.take pre.length)) (HI.out.ix.ext (HXA.out.trans HXD.out)) (by omega) b.1 (by omega) b.2.1 (by omega) b.2.2.1 (by omega) (fun j=>V₂.heap.size<=j) (fun j hj hc=>by have:=HP3.out j hc;omega) _ b.2.2.2 (HEV.out.ext (HXB.out.trans HXD.out)) (by omega) (by omega)).mono ?_;rintro e V5 ⟨rfl,hix5,hk5⟩;have hb4:(b.1,b.2.1,b.2.2.1,b.2.2.2)=b:=rfl;rw[hb4]at hix5 ⊢;rw[HG3.out];have HIX5:=hid hix5;have HK5:=hid hk5;have hnc : ¬ C Bx/\¬ C (q+1)/\¬ C q/\¬ C bb:=by
   have h1:=HSZ.out;have h2:=HZA.out;refine⟨fun h=>?_,fun h=>?_,fun h=>?_,fun h=>?_⟩
   ·have:=HP3.out _ h;omega
   ·rcases HI.out.sub _ h with h|h
    ·have:=h.2;omega
    ·omega
   ·rcases HI.out.sub _ h with h|h
    ·have:=h.2;omega
    ·omega
   ·have:=HP3.out _ h;omega
  clear hstr hall hhd hix5 hk5 hb4;(refine hK.out _ _ (zjx hS HK5.out hnc) (fun hS=>?_);clear hK K);refine ze (rs:=[14]) (by kernel_rfl) (by decide) (AllT.consS rfl (fun K hK=>?_) AllT.nil);go_simp;(refine hK.out _ _ (hS) (fun hS=>?_);clear hK K);refine ze (rs:=[15]) (by kernel_rfl) (by decide) (AllT.consS rfl (fun K hK=>?_) AllT.nil);go_simp;(refine hK.out _ _ (hS) (fun hS=>?_);clear hK K);refine zn (by kernel_rfl) (NoPanic.normal ?_) _;gi_wp2
  have hsz:=HSZ.out;have hza:=HZA.out;have hzd:=HXD.out.size;have hz5:=HK5.out.size;refine⟨fun k=>C k\/(V4.drew.heap.size<=k/\k<V5.heap.size),⟨((HXA.out.trans HXD.out).keep _).trans (HK5.out.mono fun k hk _ hc=>hk (.inl hc)),fun k hk=>?_⟩,⟨?_,(HI.out.keep.trans ((HXA.out.trans HXD.out).keep _)).trans (HK5.out.mono fun k hk _ hc=>?_),fun k hk=>?_⟩⟩
  ·rcases hk with hk|hk
   ·have:=HP3.out k hk;exact⟨.inl (.inl hk),by omega⟩
   ·exact⟨.inr (by omega),hk.2⟩
  ·rw[List.length_append,List.length_singleton,zs1 bs pre.length hlt,<-HBB.out];exact HIX5.out
  ·rcases HI.out.sub k hc with h|h
   ·exact hk.2 h
   ·omega
  ·rcases hk with hk|hk
   ·exact HI.out.sub k hk
   ·exact .inr (by omega)
 ·rintro D xs C V hD hCD hS hI hdef;have hxl:xs.length=bs.length:=by
   have h1:(frs xs).length=(frsB bs).length:=by rw[show frs xs=frsB bs from hS]
   rw[zcf]at h1;rw[<-h1];exact(List.length_map ..).symm
  have hix:=hI.ix;rw[hxl,List.take_length]at hix;have hsz:=HSZ.out;have hblk : ∀ j,j<q+3->¬ (w2.heap.size<=j/\j<w3.heap.size)->V.heap[j]? = w5.heap[j]?:=fun j h1 h2=>hI.keep.block j ⟨by omega,h2⟩ (by omega);have hq1:V.heap[q+1]? = _:=(hblk (q+1) (by omega) (by omega)).trans (yy HX5.out RB.out);have hx25:Ext w2 w5:=(HX3.out.trans HX4.out).trans HX5.out;have hk05 : ∀ j,j<w0.heap.size->ρ j=none->w2.heap[j]? = w0.heap[j]?:=fun j h1 h2=>by
   have h3:=HST2.out.keep.block j (fun h=>by
    rcases h with h|h|h
    ·rcases HRN1.out j h with h|h
     ·exact h h2
     ·omega
    ·have:=HGL1.out;omega
    ·have:=(HDIS1.out j h).2.2;omega) (by have:=HZ1.out;omega)
   exact h3.trans (HK1.out.block j h2 h1)
  have hr2:V.heap[q2]? = _:=(hblk q2 (by omega) (by omega)).trans ((Below.block hx25 q2 (by omega)).trans ((hk05 q2 (by omega) (HM.out.late (Ext.refl _) (by omega))).trans R2.out));have hr3:V.heap[q2+1]? = _:=(hblk (q2+1) (by omega) (by omega)).trans ((Below.block hx25 (q2+1) (by omega)).trans ((hk05 (q2+1) (by omega) (HM.out.late (Ext.refl _) (by omega))).trans R3.out));have c1:V.cell? ⟨q+1,0,none⟩=some (.pointer (some ⟨q,0,none⟩)):=(cr 0 hq1)
  have f2:=zg hr2 0;have f3:=zg hr3 0;have b2:V.cell? ⟨q2,0,none⟩=some (.pointer none):=(cr 0 hr2)
  have b3:V.cell? ⟨q2+1,0,none⟩=some (.int .i64 0):=(cr 0 hr3)
  have HI:=hid hI;have HIX:=hid hix;have HDF:=hid hdef;clear hI hix hdef hS hblk hq1 hr2 hr3 hk05 hx25 hxl hsz;go_wp2_with fail;have hsz:=HSZ.out;have hVz:=HI.out.keep.size;have HD2:((V.setCell ⟨q2,0,none⟩ (.pointer (some ⟨q,0,none⟩))).setCell ⟨q2+1,0,none⟩ (.int .i64 0)).heap[D]? = some (.deferred (some [])):=
   (Below.heap_setCell _ ⟨q2+1,0,none⟩ _ D (by dsimp only;omega)).trans ((Below.heap_setCell V ⟨q2,0,none⟩ _ D (by dsimp only;omega)).trans HDF.out)
  refine⟨by simp,.inl ⟨_,_,rfl,run_takeDeferred HD2,?_⟩⟩;obtain⟨V6,hV6⟩ : ∃ V6,V6=((V.setCell ⟨q2,0,none⟩ (.pointer (some ⟨q,0,none⟩))).setCell ⟨q2+1,0,none⟩ (.int .i64 0)):=⟨_,rfl⟩
  have hk6:Keep (fun k=>k≠q2/\k≠q2+1) V V6:=by rw[hV6];exact((Keep.refl _ _).setCell (p:=⟨q2,0,none⟩) (fun h=>h.1 rfl) _).setCell (p:=⟨q2+1,0,none⟩) (fun h=>h.2 rfl) _
  have e2:V6.cell? ⟨q2,0,none⟩=some (.pointer (some ⟨q,0,none⟩)):=by rw[hV6];go_simp
  have e3:V6.cell? ⟨q2+1,0,none⟩=some (.int .i64 0):=by rw[hV6];go_simp
  rw[<-hV6];clear hV6 HD2;obtain⟨Vf,hVf⟩ : ∃ Vf,Vf=V6.putObj D (.deferred none):=⟨_,rfl⟩
  have hkf:Keep (fun k=>k≠D) V6 Vf:=by rw[hVf];exact qq V6 D _ (fun h=>h rfl)
  have e2':Vf.cell? ⟨q2,0,none⟩=some (.pointer (some ⟨q,0,none⟩)):=hkf.cell e2 (by show q2≠D;omega);have e3':Vf.cell? ⟨q2+1,0,none⟩=some (.int .i64 0):=hkf.cell e3 (by show q2+1≠D;omega);rw[<-hVf];refine⟨.tuple #[.pointer (some ⟨q,0,none⟩),.int .i64 0],by simp[results,Tryz.results13,go_sem,e2',e3'],?_⟩;have hk5:Keep (fun k=>k<w5.heap.size/\¬ (w2.heap.size<=k/\k<w3.heap.size)/\k≠q2/\k≠q2+1) w5 Vf:=((HI.out.keep.mono fun k hk _=>⟨hk.1,hk.2.1⟩).trans (hk6.mono fun k hk _=>hk.2.2)).trans (hkf.mono fun k hk _=>by omega);have hx25:Ext w2 w5:=(HX3.out.trans HX4.out).trans HX5.out;have hk2:Keep (fun k=>k<w2.heap.size/\k≠q2/\k≠q2+1) w2 Vf:=(hx25.keep _).trans (hk5.mono fun k hk _=>⟨by omega,by omega,hk.2⟩);have hkC:Keep C V Vf:=(hk6.mono fun k hk _=>by
   rcases HI.out.sub k hk with h|h <;> omega).trans (hkf.mono fun k hk _ e=>hCD (e▸hk))
  clear hVf e2 e3 e2' e3' hk6 hkf;have hf1 : ∀ j,w1.heap.size<=j->ρ1 j=none/\j≠gl:=fun j hj=>⟨HLA1.out.hm.late (Ext.refl _) hj,by have:=HLA1.out.log.lt;omega⟩
  have hρq : ∀ j,(j=q2\/j=q2+1)->ρ1 j=none:=fun j hj=>by
   by_cases e:ρ1 j=none
   ·exact e
   ·rcases HRN1.out j e with h|h
    ·exact absurd (HM.out.late (Ext.refl _) (by omega)) h
    ·omega
  have hφ2 : ∀ j,φ2 j≠none->ρ1 j=none/\j≠gl/\w.heap.size<=j/\w0.heap.size<=j/\j<w2.heap.size:=fun j hj=>by
   have h0:=HFS2.out.lt j hj;have hw:=HM.out.ex.size;rcases HST2.out.new j hj with h|h
   ·have h1:=HD1.out j h;have h2:=HDIS1.out j h;exact⟨h1.1,h1.2.1,h1.2.2,h2.2.2,h0⟩
   ·have h1:=hf1 j h;exact⟨h1.1,h1.2,by omega,by omega,h0⟩
  have hρ1 : ∀ j,ρ1 j≠none->j<w1.heap.size:=fun j hj=>by
   rcases Nat.lt_or_ge j w1.heap.size with h|h
   ·exact h
   ·exact absurd (hf1 j h).1 hj
  have hnoT : ∀ j,FsT ρ1 gl φ2 j->j<w2.heap.size:=fun j hj=>by
   rcases hj with h|h|h
   ·have:=hρ1 j h;omega
   ·have:=HLA1.out.log.lt;omega
   ·exact(hφ2 j h).2.2.2.2
  have hnoS : ∀ j,SegS Sd gs fv zv j->w1.heap.size<=j/\j<w2.heap.size/\φ2 j=none:=HSD2.out;have hsegT : ∀ j,w1.heap.size<=j->φ2 j=none->¬ FsT ρ1 gl φ2 j:=fun j h1 h2 h=>by
   have h3:=hf1 j h1;rcases h with h|h|h
   ·exact h h3.1
   ·exact h3.2 h
   ·exact h h2
  have hC : ∀ k,C k->(w2.heap.size<=k/\k<w3.heap.size)\/w5.heap.size<=k:=HI.out.sub;have hixf:Idx (fun k=>C k/\k<Vf.heap.size) Vf gx (ixB bs):=(HIX.out.keep hkC).mono fun k hk hl=>⟨hk,hl⟩
  have hla:LogAt w Vf g ρ1 (N+500) d2 gl 64 (n0+1) A:=by
   have h:=HLA2.out.keepT (hk2.mono fun k hk hl=>⟨hl,by
    rcases hk with (hk|hk)|hk
    ·exact⟨fun e=>hk (hρq k (.inl e)),fun e=>hk (hρq k (.inr e))⟩
    ·have:=HM.out.ex.size;omega
    ·have:=HGL1.out;omega⟩)
   exact { h with hm:=h.hm.mono (by omega) }
  have hsegV:=HSP2.out.keep (hk2.mono fun k hk hl=>⟨hl,by have:=hnoS k hk;omega⟩);have hw:=HM.out.ex.size;have hVfz:=hk5.size;refine⟨q,ρ1,d2,n0+1,fun j=>FsT ρ1 gl φ2 j\/SegS Sd gs fv zv j\/(C j/\j<Vf.heap.size)\/j=q,rfl,by omega,⟨gl,A,φ2,gf,gc,ga,gm,gt,gn,qn,lv,gs,fv,zv,Sd,gx,fun k=>C k/\k<Vf.heap.size,
   {
    head:=(hk5.block q (by omega) (by omega)).trans (yy HX5.out RQ.out),log:=hla,mem:=HFS2.out.keep (hk2.mono fun k hk hl=>⟨hl,by have:=hφ2 k hk;omega⟩),dis:=fun j hj=>⟨(hφ2 j hj).1,(hφ2 j hj).2.1,(hφ2 j hj).2.2.1⟩,home:=HF.out,seg:=hsegV,
    segd:=fun j hj=>⟨hsegT j (hnoS j hj).1 (hnoS j hj).2.2,by have:=(hnoS j hj).1;omega⟩,ix:=hixf,ixd:=fun j hj=>⟨fun h=>?_,fun h=>?_,?_⟩,qd:=⟨fun h=>?_,fun h=>?_⟩,cov:=fun j hj=>hj,low:=fun j hj=>?_,good:=HG.out }⟩,HC2.out,fun j hj=>?_,?_,fun j hj=>?_⟩
  ·have:=hnoT j h;rcases hC j hj.1 with h|h <;> omega
  ·have:=hnoS j h;rcases hC j hj.1 with h|h <;> omega
  ·rcases hC j hj.1 with h|h <;> omega
  ·have:=hnoT q h;omega
  ·have:=hnoS q h;omega
  ·rcases hj with hj|hj|hj|hj
   ·have h1:=hnoT j hj;refine⟨?_,by omega⟩;rcases hj with hj|hj|hj
    ·exact HLA1.out.hm.nw j hj
    ·have:=HLA1.out.low;omega
    ·exact(hφ2 j hj).2.2.1
   ·have:=hnoS j hj;omega
   ·refine⟨?_,hj.2⟩;rcases hC j hj.1 with h|h <;> omega
   ·omega
  ·rcases HRN1.out j hj with h|h
   ·exact .inl h
   ·exact .inr (by omega)
  ·have k1:Keep (fun j=>ρ j=none/\j<W.heap.size) W w1:=(HX0.out.keep _).trans (HK1.out.mono fun j hj _=>hj.1);have k2:=(k1.trans (HST2.out.keep.mono fun j hj _ h=>by
    rcases h with h|h|h
    ·rcases HRN1.out j h with h|h
     ·exact h hj.1
     ·omega
    ·have:=HGL1.out;omega
    ·have:=(HDIS1.out j h).2.2;omega)).trans (hk2.mono fun j hj hl=>⟨hl,by omega,by omega⟩)
   exact k2.mono fun j hj hl=>⟨hj,hl⟩
  ·rcases hj with (hj|hj|hj)|hj|hj|hj
   ·rcases HRN1.out j hj with h|h
    ·exact .inl h
    ·exact .inr (by omega)
   ·exact .inr (by have:=HGL1.out;omega)
   ·exact .inr (by have:=hφ2 j hj;omega)
   ·exact .inr (by have:=hnoS j hj;omega)
   ·exact .inr (by rcases hC j hj.1 with h|h <;> omega)
   ·exact .inr (by omega)
 ·rintro D c pre C V hD hCD hok hf hdef;exact hf.elim
end
end Go.Proofs.YtnadlnmclameiaaGreatDoor
