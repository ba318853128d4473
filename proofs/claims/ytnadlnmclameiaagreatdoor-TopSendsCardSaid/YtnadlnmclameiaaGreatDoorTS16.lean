/- part 16 -/
import Derived.Test.YtnadlnmclameiaaGreatDoorTS15
set_option maxRecDepth 100000
set_option maxHeartbeats 8000000
set_option linter.all false
namespace Go.Proofs.YtnadlnmclameiaaGreatDoor
section
open Go.RowKit Go.Maps
theorem zlf {w W:World}{g:Nat}{ρ:Nat->Option DRol}{N:Nat}{d:Dv} (hm:Mine w W g ρ N d) (hN:N<=999999000) (hu:Up d) (n:Int) (hn:0<=n/\n<d.safe.length) :
  Calls Tryz.prog 108 #[.pointer (some ⟨g,0,none⟩),.int .i64 n] W fun e W'=>Keep (fun k=>k≠g) W W'/\∃ d',Mine w W' g ρ (N+1) d'/\Same d d'/\
   ((e = .returned (.tuple #[.slice none 0 0,.int .i64 2])/\d.fuse≠ -1/\d'.down=true)\/
   ∃ k,e = .returned (.tuple #[.slice (some ⟨k,0,none⟩) 512 512,.int .i64 0])/\W.heap.size<=k/\W'.heap[k]? = some (.cells (bvs (curF d n)).toArray 85 (0,0))/\(curF d n).length=512/\Up d'/\(d.fuse = -1->d'.fuse = -1)):=by
 have hsz:d.safe.length<=512:=by obtain⟨_,_,_,h⟩:=hm.dv;exact h.size.2
 refine(zuj hm hN n (by omega)).mono ?_;rintro e W' ⟨h4,h5,h6⟩;refine⟨h6,_,h5,?_⟩;rcases zfj hu hn with⟨d',e1,h1,h2,h3⟩|⟨h0,d',e1,h1,h2⟩
 ·rw[e1]at h4 h5 ⊢;rcases h4 with⟨h,_⟩|⟨_,h7,k,h8,h9,h10⟩
  ·exact absurd rfl h
  ·exact⟨h1,.inr ⟨k,h8,h9,h10,h7,h2,h3⟩⟩
 ·rw[e1]at h4 h5 ⊢;rcases h4 with⟨_,h⟩|⟨h,_⟩
  ·exact⟨h1,.inl ⟨h,h0,h2⟩⟩
  ·exact absurd h (by simp)
def k7 (c:Bk):Option Nat:=if (zj c).e=0/\(9<=(zj c).data.length/\(zj c).data.take 9=magicB)/\(zi ((zj c).data.drop 9)).2.2=0 then some (zi ((zj c).data.drop 9)).1 else none
def WtEnd (w W:World) (g:Nat) (ρ:Nat->Option DRol) (N:Nat) (d:Dv) (res:Option (List JW)) (e:Ending) (W':World):Prop:=
 Keep (fun k=>k≠g) W W'/\∃ d',Mine w W' g ρ N d'/\Same d d'/\
  ((e = .returned (.tuple #[.slice none 0 0,.int .i64 2])/\d.fuse≠ -1/\d'.down=true)\/
  (Up d'/\(d.fuse = -1->d'.fuse = -1)/\((res=none/\e = .returned (.tuple #[.slice none 0 0,.int .i64 0]))\/∃ ws a c,res=some ws/\e = .returned (.tuple #[.slice (some a) ws.length c,.int .i64 0])/\RdS rWr W' (fun k=>W.heap.size<=k) (.slice (some a) ws.length c) ws)))
theorem WtEnd.quit {w W W':World}{g:Nat}{ρ:Nat->Option DRol}{N:Nat}{d d':Dv} (hk:Keep (fun k=>k≠g) W W') (hm:Mine w W' g ρ N d') (hs:Same d d') (hu:Up d') (hf:d.fuse = -1->d'.fuse = -1):WtEnd w W g ρ N d none (.returned (.tuple #[.slice none 0 0,.int .i64 0])) W':=
 ⟨hk,d',hm,hs,.inr ⟨hu,hf,.inl ⟨rfl,rfl⟩⟩⟩
theorem zni {w W:World}{g:Nat}{ρ:Nat->Option DRol}{N:Nat}{d:Dv} (hm:Mine w W g ρ N d) (hN:N<=999990000) (hu:Up d) (gl:Nat) (size:Int) (last:Nat) (hl:last<=100000000) (dead:Bool) (hlog:LogRow W gl g size last dead) (hlg:gl≠g) (h64:2<d.safe.length)
  (hno:k7 (curF d 2)≠some (last+1)) :
  Calls Tryz.prog 105 #[.pointer (some ⟨gl,0,none⟩)] W (WtEnd w W g ρ (N+1) d none):=by
 have c0:=hlog.c0;have HM:=hid hm;have HL:=hid hlog;have HU:=hid hu;have HNO:=hid hno;have hw:IntKind.u64.wrap ((last:Int)+1)=(last:Int)+1:=by
  unfold IntKind.wrap;simp[IntKind.min,IntKind.max,IntKind.bits,IntKind.signed];omega
 clear hm hlog hu hno;go_enter Tryz.func105,Tryz.ntmps105;go_wp2_with fail;refine(zlf HM.out (by omega) HU.out 2 (by omega)).mono ?_;rintro e w1 ⟨hk1,d1,hm1,hs1,hcase⟩;have HK1:=hid hk1;have HM1:=hid hm1;have HS1:=hid hs1;have HL1:=hid (HL.out.keep hk1 hlg);have hs01:=hk1.size;clear hk1 hm1 hs1;rcases hcase with⟨rfl,hf1,hd1⟩|⟨kb,rfl,hkb,hrow,hbl,hu1,hf1⟩
 ·go_wp2_with fail;refine bodyPost_ret (v:=.tuple #[.slice none 0 0,.int .i64 2]) (by simp[results,Tryz.results105,go_sem]) rfl ?_;exact⟨HK1.out,d1,HM1.out,HS1.out,.inl ⟨rfl,hf1,hd1⟩⟩
 ·have HU1:=hid hu1;have HF1:=hid hf1;generalize curF d 2=B at hrow hbl HNO;have hrd:=zbz hrow hbl;have hfe:=(zbf w1 _ B hrd (by omega))
  clear hrow hbl hu1 hf1 hrd c0;go_wp2_with fail;refine hfe.mono ?_;clear hfe;rintro e w2 ⟨dv,rfl,ho,hb⟩;obtain⟨da,dc,rfl⟩:=ho.slice;have hx2:=Ext.of hb;have hbad:=zd0 B;have HNO2:=hid (show ∀ f,f=zj B->¬ (f.e=0/\(9<=f.data.length/\f.data.take 9=magicB)/\(zi (f.data.drop 9)).2.2=0/\(zi (f.data.drop 9)).1=last+1) from by
   rintro f rfl ⟨h1,h2,h3,h4⟩;exact HNO.out (by unfold k7;rw[if_pos ⟨h1,h2,h3⟩,h4]))
  have hfl:(zj B).data.length<=140737488355328:=by
   by_cases h:(zj B).e=0
   ·have:=(zew B h).1;omega
   ·rw[(zd0 B h).2.2];simp
  generalize hf:zj B=f at ho hbad hfl;have HFL:=hid hfl;have HNO3:=hid (HNO2.out f hf.symm);have HBAD:=hid hbad;have HO:=hid ho;have HX2:=hid hx2;clear HNO HNO2 hf ho hb hx2 hbad hfl;obtain⟨wF,hwF⟩ : ∃ wF,wF=w2.alloc (.cells #[.int .u8 ((f.kind.toNat:Nat):Int),.slice da f.data.length dc] 80):=⟨_,rfl⟩
  have hx3:Ext w2 wF:=by rw[hwF];exact(Ext.refl _).alloc _
  have hrF:wF.heap[w2.heap.size]? = some (.cells #[.int .u8 ((f.kind.toNat:Nat):Int),.slice da f.data.length dc] 80 (0,0)):=by rw[hwF];exact heap_alloc_new _ _
  have b1:wF.cell? ⟨w2.heap.size,1,none⟩=some (.slice da f.data.length dc):=(cr _ hrF)
  have HRD:=hid (RdB.ext (zk HO.out) hx3);have hkc:=kcM wF;have HX3:=hid hx3;clear hrF hx3;go_upto_region 5 with fail;rw[<-hwF];clear hwF;go_wp2_with fail;obtain⟨wM,hwM⟩ : ∃ wM,wM=wF.alloc (.cells #[.int .u8 99,.int .u8 97,.int .u8 114,.int .u8 116,.int .u8 117,.int .u8 108,.int .u8 97,.int .u8 114,.int .u8 121] 5 (9,10)):=⟨_,rfl⟩
  have hmrd:=zas wF;rw[<-hwM]at hmrd ⊢;have hxM:Ext wF wM:=by rw[hwM];exact(Ext.refl _).alloc _
  have HLM:=hid (((HL1.out.ext HX2.out).ext HX3.out).ext hxM);have hx1M:Ext w1 wM:=(HX2.out.trans HX3.out).trans hxM;have HEND:=hid (show ∀ W',W'=wM->WtEnd w W g ρ (N+1) d none (.returned (.tuple #[.slice none 0 0,.int .i64 0])) W' by
   rintro W' rfl;exact WtEnd.quit (HK1.out.trans (hx1M.keep _)) (HM1.out.ext hx1M) HS1.out HU1.out HF1.out)
  have hrdM:=HRD.out.ext hxM;have HRDM:=hid hrdM;have hlf:f.data.length<=140737488355328:=HFL.out;refine(jq wM da dc _ f.data magicB hrdM hmrd hlf).mono ?_;rintro e w5 ⟨rfl,hcut⟩;clear hwM hmrd hkc hx1M hxM hrdM b1;rw[show magicB.length=9 from rfl]at hcut;by_cases hE:f.e=0
  ·have hEi:(f.e:Int)=0:=by omega
   by_cases hpre:9<=f.data.length/\f.data.take 9=magicB
   ·rw[if_pos hpre]at hcut;obtain⟨rfl,hrr⟩:=hcut;have hui:=yv wM _ _ hrr;have c2:=HLM.out.c2;have hno : ∀ u uk ue,zi (f.data.drop 9)=(u,uk,ue)->¬ (ue=0/\u=last+1):=fun u uk ue h hh=>HNO3.out ⟨hE,hpre,by rw[h];exact hh.1,by rw[h];exact hh.2⟩;generalize zi (f.data.drop 9)=U at hui hno;obtain⟨u,uk,ue⟩:=U;have hno':=hno u uk ue rfl;have HUI:=hid hui;clear hui hno hrr hpre HNO3 HBAD hE;go_wp2_with fail;refine HUI.out.mono ?_;rintro e w6 ⟨rfl,rfl⟩;dsimp only;by_cases hue:ue=0
    ·subst hue;have hun : ¬ ((u:Nat):Int)=(last:Int)+1:=by omega
     go_wp2_with fail;refine bodyPost_ret (v:=.tuple #[.slice none 0 0,.int .i64 0]) (by simp[results,Tryz.results105,go_sem]) rfl ?_;exact HEND.out _ rfl
    ·have hun : ¬ ((ue:Nat):Int)=0:=by omega
     go_wp2_with fail;refine bodyPost_ret (v:=.tuple #[.slice none 0 0,.int .i64 0]) (by simp[results,Tryz.results105,go_sem]) rfl ?_;exact HEND.out _ rfl
   ·rw[if_neg hpre]at hcut;subst hcut;clear hpre;go_wp2_with fail;refine bodyPost_ret (v:=.tuple #[.slice none 0 0,.int .i64 0]) (by simp[results,Tryz.results105,go_sem]) rfl ?_;exact HEND.out _ rfl
  ·have hd0:=(HBAD.out hE).2.2;have hEi : ¬ (f.e:Int)=0:=by omega
   rw[if_neg (by rw[hd0];simp)]at hcut;subst hcut;clear hE hd0;go_wp2_with fail;refine bodyPost_ret (v:=.tuple #[.slice none 0 0,.int .i64 0]) (by simp[results,Tryz.results105,go_sem]) rfl ?_;exact HEND.out _ rfl
open Go.RowKit Go.Maps
theorem Mine.kept {w W W':World}{g:Nat}{ρ:Nat->Option DRol}{N:Nat}{d:Dv} (hm:Mine w W g ρ N d) (hk:Keep (fun k=>ρ k≠none\/k<w.heap.size) W W'):Mine w W' g ρ N d:=by
 refine⟨hm.dv.keep (hk.mono fun k h _=>.inl h),hm.nw,Keep.ext ?_⟩;have h1:Keep (fun k=>k<w.heap.size) w W:=hm.ex.keep _;exact(h1.trans (hk.mono fun k h _=>.inr h)).mono fun k _ hl=>hl
theorem zfy (n:Nat) (hn:n<=18446744073709551615) (ws:List JW) (hok:WsOk ws) : ∃ (m:Nat) (D R0:List UInt8) (k1 k2:Nat) (rest:Nat->List UInt8),zj (qr n ws)=⟨106,D,m,0⟩/\9<=D.length/\D.take 9=magicB/\D.length<=193/\D.drop 9=R0/\zi R0=(n,k1,0)/\k1<=R0.length/\zi (R0.drop k1)=(ws.length,k2,0)/\k1+k2<=R0.length/\R0.drop (k1+k2)=rest 0/\(∀ i,(rest i).length<=193)/\
  ∀ i (h:i<ws.length),∃ k,zi (rest i)=(ws[i].1.toNat,k,0)/\k<=(rest i).length/\(rest i).drop k=rest (i+1):=by
 have hjl:=zkp n ws hok.1;obtain⟨T,hT⟩ : ∃ T,T=le32 (sumF (ja ws++jb n ws)):=⟨_,rfl⟩
 have hD:jd n ws=magicB++(putU n++(putU ws.length++((ws.flatMap fun p=>putU p.1.toNat)++T))):=by
  unfold jd;rw[<-hT];simp only[jb,List.append_assoc]
 have h9:magicB.length=9:=rfl;refine⟨(putF 106 (jd n ws)).length,jd n ws,putU n++(putU ws.length++((ws.flatMap fun p=>putU p.1.toNat)++T)),(putU n).length,(putU ws.length).length,fun i=>((ws.drop i).flatMap fun p=>putU p.1.toNat)++T,?_,?_,?_,hjl,?_,?_,?_,?_,?_,?_,?_,?_⟩
 ·unfold qr;exact zc4 106 _ _ (by omega)
 ·rw[hD,List.length_append];omega
 ·rw[hD,<-h9];exact List.take_left
 ·rw[hD,<-h9];exact List.drop_left
 ·exact qi n hn _
 ·rw[List.length_append];omega
 ·rw[List.drop_left];exact qi _ (by have:=hok.1;omega) _
 ·simp only[List.length_append];omega
 ·rw[<-List.drop_drop,List.drop_left,List.drop_left];rfl
 ·intro i;rw[hD]at hjl;simp only[List.length_append]at hjl ⊢;have h2:((ws.drop i).flatMap fun p=>putU p.1.toNat).length<=(ws.flatMap fun p=>putU p.1.toNat).length:=by
   conv=>rhs;rw[<-List.take_append_drop i ws]
   rw[List.flatMap_append,List.length_append];omega
  omega
 ·intro i h;have e:ws.drop i=ws[i] :: ws.drop (i+1):=List.drop_eq_getElem_cons h;refine⟨(putU ws[i].1.toNat).length,?_,?_,?_⟩
  ·show zi (((ws.drop i).flatMap fun p=>putU p.1.toNat)++T)=_;rw[e,List.flatMap_cons,List.append_assoc];have:=hok.2 _ (List.getElem_mem h);exact qi _ (by omega) _
  ·show _<=(((ws.drop i).flatMap fun p=>putU p.1.toNat)++T).length;rw[e,List.flatMap_cons,List.append_assoc,List.length_append];omega
  ·show (((ws.drop i).flatMap fun p=>putU p.1.toNat)++T).drop _=_;rw[e,List.flatMap_cons,List.append_assoc,List.drop_left]
theorem zlm {w W:World}{g:Nat}{ρ:Nat->Option DRol}{N:Nat}{d:Dv} (hm:Mine w W g ρ N d) (hN:N<=999990000) (hu:Up d) (gl:Nat) (size:Int) (last:Nat) (hl:last<=100000000) (dead:Bool) (hlog:LogRow W gl g size last dead) (hlg:gl≠g) (h64:64<=d.safe.length)
  (ws:List JW) (hok:WsOk ws) (hc2:curF d 2=qr (last+1) ws) (hcp : ∀ j (h:j<ws.length),curF d (3+j)=ws[j].2) :
  Calls Tryz.prog 105 #[.pointer (some ⟨gl,0,none⟩)] W (WtEnd w W g ρ (N+20) d (some ws)):=by
 have c0:=hlog.c0;have HM:=hid hm;have HL:=hid hlog;have HU:=hid hu;have HOK:=hid hok;have HCP:=hid hcp;have hl16:=hok.1;have hw:IntKind.u64.wrap ((last:Int)+1)=(last:Int)+1:=by
  unfold IntKind.wrap;simp[IntKind.min,IntKind.max,IntKind.bits,IntKind.signed];omega
 obtain⟨m,D,R0,k1,k2,rest,p1,p2,p3,p4,p5,p6,p7,p8,p9,p10,p11,p12⟩:=zfy (last+1) (by omega) ws hok;have hBl:=(zcs (last+1) ws hok.1).2;obtain⟨B,hB⟩ : ∃ B,B=qr (last+1) ws:=⟨_,rfl⟩
 rw[<-hB]at p1 hBl hc2;have HB:=hid hB;have HC2:=hid hc2;have P3:=hid p3;have P5:=hid p5;have P6:=hid p6;have P8:=hid p8;have P10:=hid p10;have P11:=hid p11;have P12:=hid p12;clear hm hlog hu hok hcp hB p3 p5 p6 p8 p10 p11 p12 hc2;go_enter Tryz.func105,Tryz.ntmps105;go_wp2_with fail;refine(zlf HM.out (by omega) HU.out 2 (by omega)).mono ?_;rintro e w1 ⟨hk1,d1,hm1,hs1,hcase⟩;have HK1:=hid hk1;have HM1:=hid hm1;have HS1:=hid hs1;have HL1:=hid (HL.out.keep hk1 hlg);have hs01:=hk1.size;clear hk1 hm1 hs1;rcases hcase with⟨rfl,hf1,hd1⟩|⟨kb,rfl,hkb,hrow,hbl,hu1,hf1⟩
 ·clear c0;go_wp2_with fail;refine bodyPost_ret (v:=.tuple #[.slice none 0 0,.int .i64 2]) (by simp[results,Tryz.results105,go_sem]) rfl ?_;exact⟨HK1.out,d1,HM1.out.mono (by omega),HS1.out,.inl ⟨rfl,hf1,hd1⟩⟩
 ·have HU1:=hid hu1;have HF1:=hid hf1;rw[HC2.out]at hrow;have hrd:=zbz hrow hBl;have HROW:=hid hrow;have hkbl:kb<w1.heap.size:=(blt hrow)
  have hfe:=(zbf w1 _ B hrd (by omega))
  rw[p1]at hfe;clear hrow hbl hu1 hf1 hrd c0 p1;go_wp2_with fail;refine hfe.mono ?_;clear hfe;rintro e w2 ⟨dv,rfl,ho,hb⟩;(try dsimp only at ho);obtain⟨da,dc,rfl⟩:=ho.slice;have hx2:=Ext.of hb;have HO:=hid ho;have HX2:=hid hx2;clear ho hb hx2;obtain⟨wF,hwF⟩ : ∃ wF,wF=w2.alloc (.cells #[.int .u8 106,.slice da D.length dc] 80):=⟨_,rfl⟩
  have hx3:Ext w2 wF:=by rw[hwF];exact(Ext.refl _).alloc _
  have hrF:wF.heap[w2.heap.size]? = some (.cells #[.int .u8 106,.slice da D.length dc] 80 (0,0)):=by rw[hwF];exact heap_alloc_new _ _
  have b1:wF.cell? ⟨w2.heap.size,1,none⟩=some (.slice da D.length dc):=(cr _ hrF)
  have HRD:=hid (RdB.ext (zk HO.out) hx3);have hkc:=kcM wF;have HX3:=hid hx3;clear hrF hx3;go_upto_region 5 with fail;(try rw[<-hwF]);clear hwF;go_wp2_with fail;obtain⟨wM,hwM⟩ : ∃ wM,wM=wF.alloc (.cells #[.int .u8 99,.int .u8 97,.int .u8 114,.int .u8 116,.int .u8 117,.int .u8 108,.int .u8 97,.int .u8 114,.int .u8 121] 5 (9,10)):=⟨_,rfl⟩
  have hmrd:=zas wF;rw[<-hwM]at hmrd ⊢;have hxM:Ext wF wM:=by rw[hwM];exact(Ext.refl _).alloc _
  have HLM:=hid (((HL1.out.ext HX2.out).ext HX3.out).ext hxM);have hx1M:Ext w1 wM:=(HX2.out.trans HX3.out).trans hxM;have HX1M:=hid hx1M;have hrdM:=HRD.out.ext hxM;refine(jq wM da dc _ D magicB hrdM hmrd (by omega)).mono ?_;rintro e w5 ⟨rfl,hcut⟩;rw[show magicB.length=9 from rfl,if_pos ⟨p2,P3.out⟩,P5.out]at hcut;obtain⟨rfl,hrr⟩:=hcut;have hR0:D.length-9=R0.length:=by rw[<-P5.out,List.length_drop]
  have hown : ∀ k,(Value.slice da D.length dc).ownBlock=some k->w1.heap.size<=k/\k<wM.heap.size:=fun k hk=>by
   have h1:=World.ownsRow.lt HO.out k hk;have h2:=(HX3.out.trans hxM).size;omega
  have hown9 : ∀ k,(Value.slice (yq da dc 9 1) R0.length (dc-9)).ownBlock=some k->w1.heap.size<=k/\k<wM.heap.size:=fun k hk=>hown k (by rw[<-hk];exact cut_own.symm);rw[hR0]at hrr ⊢;generalize yq da dc 9 1=ra at hrr hown9 ⊢;generalize dc-9=rc at hrr hown9 ⊢;have c2:=HLM.out.c2;have hui:=yv wM _ _ hrr;rw[P6.out]at hui;have HUI:=hid hui;have HRR:=hid hrr;have HOWN:=hid hown9;have hRl:R0.length<=193:=by omega
  clear hui hwM hmrd hkc hx1M hxM hrdM b1 hown hown9 hrr hR0;go_wp2_with fail;refine HUI.out.mono ?_;rintro e w6 ⟨rfl,rfl⟩;dsimp only;have hcc:R0.length<=rc:=by obtain⟨_,_,e,h,_⟩:=HRR.out;simp only[Value.slice.injEq]at e;omega
  have hun:((((last+1:Nat)):Int)=(last:Int)+1):=by omega
  have hdr1:=RdB.drop HRR.out k1 p7;have hui2:=yv wM _ _ hdr1;rw[P8.out]at hui2;have HUI2:=hid hui2;clear hdr1 hui2;go_wp2_with ((with_reducible refine yo ?_);go_must (refine yf rfl rfl Tryz.underlying33 qe rfl rfl k1 rfl ?_ ?_;omega))
  refine HUI2.out.mono ?_;rintro e w6 ⟨rfl,rfl⟩;dsimp only;have hks:IntKind.i64.wrap ((k1:Int)+(k2:Int))=((k1+k2:Nat):Int):=by rw[IntKind.wrap_i64] <;> omega
  have hdr2:=RdB.drop HRR.out (k1+k2) p9;rw[P10.out]at hdr2;have HD2:=hid hdr2;clear hdr2;go_wp2_with ((with_reducible refine yo ?_);go_must (refine yf rfl rfl Tryz.underlying33 qe rfl rfl (k1+k2) rfl ?_ ?_;omega))
  have hrl0:R0.length-(k1+k2)=(rest 0).length:=by rw[<-P10.out,List.length_drop]
  have hown2 : ∀ k,(Value.slice (yq ra rc (k1+k2) 1) (rest 0).length (rc-(k1+k2))).ownBlock=some k->w1.heap.size<=k/\k<wM.heap.size:=fun k hk=>HOWN.out k (by rw[<-hk];exact cut_own.symm);have hD2:=HD2.out;rw[hrl0]at hD2 ⊢;generalize yq ra rc (k1+k2) 1=sa at hD2 hown2 ⊢;generalize rc-(k1+k2)=sc at hD2 hown2 ⊢;obtain⟨wA,hwA⟩ : ∃ wA,wA=wM.alloc (.cells #[] 220):=⟨_,rfl⟩
  have hown0:=OwnS.made rWr 220 wM (fun _=>False) (fun h=>h);rw[<-hwA]at hown0 ⊢;have hxA:Ext wM wA:=by rw[hwA];exact(Ext.refl _).alloc _
  have HD2':=hid (hD2.ext hxA);have HOWN2:=hid hown2;have HOWN0:=hid hown0;have HX1A:=hid (HX1M.out.trans hxA);have hz1M:=HX1M.out.size;have hggl:g<W.heap.size:=HM.out.glt;have hgll:gl<W.heap.size:=HL.out.lt;clear hwA hxA hown0 hD2 hown2 hrl0 HD2 c2;go_loopw [8,15,87] (fun u8 u15 u87 wr=>∃ (i:Nat) (a8:Option Addr) (c8:Nat) (di:Dv) (S:Nat->Prop) (a15:Addr) (c15:Nat),u87 = .int .i64 i/\i<=ws.length/\u8 = .slice a8 (rest i).length c8/\RdB wr (.slice a8 (rest i).length c8) (rest i)/\(∀ k,(Value.slice a8 (rest i).length c8).ownBlock=some k->w1.heap.size<=k/\k<wM.heap.size)/\u15 = .slice (some a15) i c15/\OwnS rWr 220 wr wM.heap.size S (.slice (some a15) i c15) (ws.take i)/\(∀ k,S k->W.heap.size<=k/\k<wr.heap.size)/\Mine w wr g ρ (N+1+i) di/\Same d di/\Up di/\(d.fuse = -1->di.fuse = -1)/\Keep (fun k=>k≠g/\k<wM.heap.size) w1 wr) (fun _ _ u87 _=>ws.length-(intOf u87).toNat);case atStart=>exact⟨0,_,_,d1,fun _=>False,_,_,rfl,Nat.zero_le _,rfl,HD2'.out,HOWN2.out,rfl,by rw[List.take_zero];exact HOWN0.out,fun _ h=>h.elim,HM1.out.ext HX1A.out,HS1.out,HU1.out,HF1.out,HX1A.out.keep _⟩
  case round=>
   obtain⟨i,a8,c8,di,S,a15,c15,rfl,hi,rfl,hrd,hob,rfl,how,hSl,hmi,hsi,hui,hfi,hki⟩:=hrel;have HRDI:=hid hrd;have HOB:=hid hob;have HOW:=hid how;have HSL:=hid hSl;have HMI:=hid hmi;have HSI:=hid hsi;have HUI3:=hid hui;have HFI:=hid hfi;have HKI:=hid hki;have hz:=hki.size;have hzM:=hki.size;by_cases hlt:i<ws.length
   ·obtain⟨k,e1,e2,e3⟩:=P12.out i hlt;have hri:=P11.out i;obtain⟨b1,b2,b3⟩:=HOK.out.2 _ (List.getElem_mem hlt);have hcc8:(rest i).length<=c8:=by obtain⟨_,_,e,h,_⟩:=hrd;simp only[Value.slice.injEq]at e;omega
    have huin:=yv wr _ _ hrd;rw[e1]at huin;have HUN:=hid huin;have hlw:=HL1.out.keep hki ⟨hlg,by omega⟩;have c0:=hlw.c0;have i1:(i:Int)<(ws.length:Int):=by omega
    have hdr:=RdB.drop hrd k e2;rw[e3]at hdr;have HDR:=hid hdr;obtain⟨nn,hnn⟩ : ∃ nn,nn=ws[i].1.toNat:=⟨_,rfl⟩
    have hnn':(nn:Int)=ws[i].1:=by omega
    rw[<-hnn]at HUN;have HNN:=hid hnn';have E3:=hid e3;have hwr:IntKind.i64.wrap (nn:Int)=(nn:Int):=by rw[IntKind.wrap_i64] <;> omega
    have hw3:IntKind.i64.wrap (3+(i:Int))=3+(i:Int):=by rw[IntKind.wrap_i64] <;> omega
    clear hrd hob how hSl hmi hsi hui hfi hki e1 e3 huin hlw hdr hnn hnn';go_wp2_with fail;refine HUN.out.mono ?_;rintro e w6 ⟨rfl,rfl⟩;dsimp only;go_wp2_with ((with_reducible refine yo ?_);go_must (refine yf rfl rfl Tryz.underlying33 qe rfl rfl k rfl ?_ ?_;omega))
    have hrl1:(rest i).length-k=(rest (i+1)).length:=by rw[<-E3.out,List.length_drop]
    have hD3:=HDR.out;have hob3 : ∀ j,(Value.slice (yq a8 c8 k 1) (rest (i+1)).length (c8-k)).ownBlock=some j->w1.heap.size<=j/\j<wM.heap.size:=fun j hj=>HOB.out j (by rw[<-hj];exact cut_own.symm);rw[hrl1]at hD3 ⊢;generalize yq a8 c8 k 1=sa at hD3 hob3 ⊢;generalize c8-k=sc at hD3 hob3 ⊢;have HD3:=hid hD3;have HOB3:=hid hob3;clear hD3 hob3 hrl1 HDR;refine(zlf HMI.out (by omega) HUI3.out (3+i) (by have:=HSI.out.len;omega)).mono ?_;rintro e w7 ⟨hk7,d7,hm7,hs7,hcase⟩;have hki7:Keep (fun k=>k≠g/\k<wM.heap.size) w1 w7:=HKI.out.trans (hk7.mono fun k hk _=>hk.1);have HM7:=hid hm7;have HS7:=hid (HSI.out.trans hs7);have HK7:=hid hk7;have HKI7:=hid hki7;have hz7:=hk7.size;clear hm7 hs7 hk7 hki7 c0;rcases hcase with⟨rfl,hf7,hd7⟩|⟨kd,rfl,hkd,hrow7,hbl7,hu7,hf7⟩
    ·go_wp2_with fail;refine bodyPost_ret (v:=.tuple #[.slice none 0 0,.int .i64 2]) (by simp[results,Tryz.results105,go_sem]) rfl ?_;exact⟨HK1.out.trans (HKI7.out.mono fun k hk hl=>⟨hk,by omega⟩),d7,HM7.out.mono (by omega),HS7.out,.inl ⟨rfl,fun h=>hf7 (HFI.out h),hd7⟩⟩
    ·rw[HSI.out.cur,HCP.out i hlt]at hrow7;have hrd7:=zbz hrow7 b3;have HRD7:=hid hrd7;have hkdl:kd<w7.heap.size:=(blt hrow7)
     have hwig:wM.heap.size<=wr.heap.size->True:=fun _=>trivial;have HU7:=hid hu7;have HF7:=hid hf7;have how7:OwnS rWr 220 w7 wM.heap.size (fun j=>S j\/j=kd) (.slice (some a15) i c15) (ws.take i):=by
      refine(HOW.out.kept (HK7.out.mono fun j hj hl=>?_)).widen (fun j hj _=>.inl hj) (fun j hj hSj=>?_)
      ·rcases hj with hj|hj
       ·have:=(HSL.out j hj).1;omega
       ·have:=(HOW.out.lt j hj).1;omega
      ·have hlt':=HOW.out.lt j hj;rcases hSj with h|h
       ·obtain⟨gs,_,_,h3,_⟩:=HOW.out;exact h3 j hj h
       ·omega
     have HOW7:=hid how7;clear hrow7 hrd7 hu7 hf7 how7 hbl7;have HSRC:=hid (show ∀ x:Value,x = .slice (some ⟨kd,0,none⟩) 512 512->Src Tryz.prog rWr.size 164 (.slice (some ⟨w7.heap.size,0,none⟩) 1 1) 1 [.int .i64 nn,x] (w7.alloc (.cells #[.int .i64 nn,x] 220)) from by
      rintro x rfl;exact zby Tryz.underlying164 (heap_alloc_new _ _) (fun u hu=>by
       rcases List.mem_cons.1 hu with rfl|hu
       ·rfl
       ·rcases List.mem_cons.1 hu with rfl|hu
        ·rfl
        ·cases hu) rfl)
     have HELM:=hid (show ∀ p∈[(([.int .i64 nn,.slice (some ⟨kd,0,none⟩) 512 512]:List Value),ws[i])],rWr.rd (w7.alloc (.cells #[.int .i64 nn,.slice (some ⟨kd,0,none⟩) 512 512] 220)) (fun j=>S j\/j=kd) p.1 p.2 from by
      intro p hp;rw[List.mem_singleton]at hp;subst hp;refine⟨[.int .i64 nn],[.slice (some ⟨kd,0,none⟩) 512 512],rfl,⟨?_,?_⟩,.slice (some ⟨kd,0,none⟩) 512 512,rfl,HRD7.out.alloc _,fun _ j hj=>.inr ?_⟩
      ·rw[HNN.out]
      ·show -9223372036854775808<=ws[i].1/\ws[i].1<=9223372036854775807;omega
      ·simpa[Value.ownBlock] using hj.symm)
     have hzB:(w7.alloc (.cells #[.int .i64 nn,.slice (some ⟨kd,0,none⟩) 512 512] 220)).heap.size=w7.heap.size+1:=by simp
     have HZB:=hid hzB;have HSB:=hid (show ∀ j,(S j\/j=kd)->j<(w7.alloc (.cells #[.int .i64 nn,.slice (some ⟨kd,0,none⟩) 512 512] 220)).heap.size from fun j hj=>by
      rw[hzB];rcases hj with h|h
      ·have:=(HSL.out j h).2;omega
      ·omega)
     have HOW8:=hid (HOW7.out.ext ((Ext.refl w7).alloc (.cells #[.int .i64 nn,.slice (some ⟨kd,0,none⟩) 512 512] 220)));have htl:(ws.take i).length=i:=by rw[List.length_take];omega
     have HTL:=hid htl;have hMB:wM.heap.size<=wr.heap.size:=Nat.le_trans (by have:=(HOB3.out);have:=(HOW.out.lt);exact Nat.le_of_lt (by
      have:=HOW.out.lt a15.block rfl;omega)) (Nat.le_refl _)
     have HMB:=hid hMB;clear hzB htl hMB;go_wp2_with (at_builtin;go_must (refine vw rWr rfl _ _ _ _ _ (.agg #[.int .i64 0,.slice none 0 0]) 32 rfl Tryz.underlying164 zkq rfl wM.heap.size (fun j=>S j\/j=kd) _ (ws.take i) rfl HOW8.out _ [([.int .i64 nn,.slice (some ⟨kd,0,none⟩) 512 512],ws[i])] rfl (HSRC.out _ rfl) HELM.out HSB.out (by rw[HTL.out];show (i+1)*32<=_;omega) (by rw[HTL.out];show i+1<=_;omega) (by rw[HZB.out];have:=HMB.out;omega) ?_;intro v8 w8 k1 k2 k3;have HK1':=hid k1;have HK2':=hid k2;have HK3':=hid k3;clear k1 k2 k3))
     have hta:ws.take (i+1)=ws.take i++[ws[i]]:=(List.take_append_getElem hlt).symm;have ho8:OwnS rWr 220 w8 wM.heap.size (fun j=>S j\/j=kd) v8 (ws.take (i+1)):=by rw[hta];exact HK1'.out
     obtain⟨g8,c8',cur8,rfl,hb8,hl8,hrow8⟩:=ho8.headJ (by rw[List.length_take];omega);have hlen1:(ws.take (i+1)).length=i+1:=by rw[List.length_take];omega
     rw[hlen1]at ho8 ⊢;have hkA:Keep (fun k=>k<wM.heap.size) w7 w8:=(((Ext.refl w7).alloc (.cells #[.int .i64 nn,.slice (some ⟨kd,0,none⟩) 512 512] 220)).keep _).trans ((zl HK2'.out).mono fun k hk hl e=>by
      have:=(HOW.out.lt k e.symm).1;omega)
     refine⟨⟨i+1,sa,sc,d7,fun j=>S j\/j=kd,⟨g8,0,none⟩,c8',rfl,by omega,rfl,?_,HOB3.out,rfl,ho8,fun j hj=>?_,?_,HS7.out,HU7.out,fun h=>HF7.out (HFI.out h),HKI7.out.trans (hkA.mono fun k hk _=>hk.2)⟩,by simp only[intOf];omega⟩
     ·have h7:RdB w7 (.slice sa (rest (i+1)).length sc) (rest (i+1)):=Rd.carry0 HD3.out HK7.out.size fun _ j hj hl=>HK7.out.block j (by have:=(HOB3.out j hj).1;omega) hl;exact Rd.carry0 h7 hkA.size fun _ j hj hl=>hkA.block j (HOB3.out j hj).2 hl
     ·have h8:=hkA.size;rcases hj with h|h
      ·have:=HSL.out j h;omega
      ·omega
     ·exact(HM7.out.mono (by omega)).kept (hkA.mono fun k hk hl=>by
       have h1:=HX1M.out.size;rcases hk with h|h
       ·have h2:=(HM7.out).dv;by_cases hh:k<wM.heap.size
        ·exact hh
        ·exact absurd (HM1.out.late HX1M.out (by omega)) h
       ·have:=HM.out.ex.size;omega)
   ·have hie:i=ws.length:=by omega
    subst hie;have i1 : ¬ ((ws.length:Nat):Int)<(ws.length:Int):=by omega
    have how':=HOW.out;rw[List.take_length]at how';have hhd:=zkt wr (last+1) (by omega) _ _ ws how'.rd HOK.out;rw[<-HB.out]at hhd;have hrowB:wr.heap[kb]? = some (.cells (bvs B).toArray 85 (0,0)):=(HKI.out.block kb ⟨by omega,by have:=HX1M.out.size;omega⟩ hkbl).trans HROW.out;have hrdB:=zbz hrowB hBl;have HHD:=hid hhd;have HRDB:=hid hrdB;have HOWE:=hid how';clear hrd hob how hSl hmi hsi hui hfi hki how' hhd hrowB hrdB;go_wp2_with fail;refine HHD.out.mono ?_;rintro e w8 ⟨v8,rfl,ho8,hb8⟩;have hx8:Ext wr w8:=hb8;have heq:=zcx w8 v8 _ B B (zk ho8) (HRDB.out.ext hx8);rw[decide_eq_true rfl]at heq;have HEQ:=hid heq;have HX8:=hid hx8;clear ho8 hb8 hx8 heq;go_wp2_with fail;refine HEQ.out.mono ?_;rintro e w9 ⟨rfl,rfl⟩;go_wp2_with fail;refine bodyPost_ret (v:=.tuple #[.slice (some a15) ws.length c15,.int .i64 0]) (by simp[results,Tryz.results105,go_sem]) rfl ?_;refine⟨HK1.out.trans ((HKI.out.mono fun k hk hl=>⟨hk,by have:=HX1M.out.size;omega⟩).trans (HX8.out.keep _)),di,(HMI.out.mono (by omega)).ext HX8.out,HSI.out,.inr ⟨HUI3.out,HFI.out,.inr ⟨ws,a15,c15,rfl,rfl,?_⟩⟩⟩;refine(HOWE.out.rd.ext HX8.out).mono fun k hk _=>?_;rcases hk with h|h
    ·exact(HSL.out k h).1
    ·have h1:=(HOW.out.lt k h).1;have h2:=HX1M.out.size;omega
open Go.RowKit Go.Maps
theorem MLo {w W:World}{g:Nat}{ρ:Nat->Option DRol}{N:Nat}{d:Dv} (hm:Mine w W g ρ N d) (hN:N<=999999000) (n:Int) (hn : -9223372036854775808<=n/\n<=9223372036854775807) :
  Calls Tryz.prog 101 #[.pointer (some ⟨g,0,none⟩),.int .i64 n] W fun e W'=>∃ v,e = .returned (.tuple #[v,.int .i64 (j9 d n).count,.int .i64 (j9 d n).err])/\RdB W' v (j9 d n).data/\(∀ k,v.ownBlock=some k->W.heap.size<=k)/\Mine w W' g ρ (N+2) (j9 d n).dev/\Keep (fun k=>k≠g) W W':=by
 refine(zt0 W g ρ N d hm.dv (by omega) n hn).mono ?_;rintro e W' ⟨v,rfl,h1,h2,h3,h4⟩;exact⟨v,rfl,h1,h2,hm.hd h3 h4,h4⟩
def zo0 (w W:World) (g:Nat) (ρ:Nat->Option DRol) (N:Nat) (d:Dv) (n:Nat) (ws:List JW) (e:Ending) (W':World):Prop:=
 ∃ ρ' d',Mine w W' g ρ' N d'/\RolNew ρ ρ' W/\Keep (fun k=>ρ k=none) W W'/\
  ((e = .returned (.tuple #[.pointer none,.int .i64 2])/\d.fuse≠ -1/\Same d d'/\d'.down=true)\/
  ∃ d0,Same d d0/\Up d0/\(d.fuse = -1->d0.fuse = -1)/\d'=(yu d0 n ws).2/\
   (((yu d0 n ws).1≠0/\e = .returned (.tuple #[.pointer none,.int .i64 (yu d0 n ws).1]))\/
    ((yu d0 n ws).1=0/\∃ gl,e = .returned (.tuple #[.pointer (some ⟨gl,0,none⟩),.int .i64 0])/\W.heap.size<=gl/\ρ' gl=none/\LogRow W' gl g ((d.safe.length:Int)-20) (n+1) false)))
theorem zv7 {w W:World}{g:Nat}{ρ:Nat->Option DRol}{N:Nat}{d:Dv} (hm:Mine w W g ρ N d) (hN:N<=999700000) (hu:Up d) (h64:64<=d.safe.length/\d.safe.length<=1000) (n:Nat) (hn:n<=100000000) (hr:Rec d 0 n (yg n))
  (res:Option (List JW)) (hno:res=none->k7 (curF d 2)≠some (n+1)) (hyes : ∀ ws,res=some ws->WsOk ws/\curF d 2=qr (n+1) ws/\∀ j (h:j<ws.length),curF d (3+j)=ws[j].2)
  (hap : ∀ d0,Same d d0->Up d0->jf d0 (res.getD [])) :
  Calls Tryz.prog 59 #[.pointer (some ⟨g,0,none⟩)] W (zo0 w W g ρ (N+300) d n (res.getD [])):=by
 have hlo:=MLo hm (by omega) 0 (by omega);have HLO:=hid hlo;have HM:=hid hm;have HNO:=hid hno;have HYES:=hid hyes;have HAP:=hid hap;have HU:=hid hu;have hlu:=zvn hu (n:=0) (by omega) hr;clear hlo hm hno hyes hap hr hu;go_enter Tryz.func59,Tryz.ntmps59;go_wp2_with fail;refine HLO.out.mono ?_;rintro e w1 ⟨v,rfl,hv,hvb,hm1,hk1⟩;rcases hlu with⟨d1,e1,hs1,hu1,hf1⟩|⟨hf0,d1,e1,hs1,hd1⟩
 ·rw[e1]at hv hm1 ⊢;dsimp only at hv hm1 ⊢;obtain⟨va,vc,rfl⟩:=hv.slice';have hkc:=kcM w1;have hgn:ρ g≠none:=by obtain⟨_,_,_,h⟩:=HM.out.dv;rw[h.rg];simp
  have HK1:=hid (hk1.mono (S':=fun k=>ρ k=none) fun k hk hl e=>hgn (by rw[<-e];exact hk));have hz1:=hk1.size;have HV:=hid hv;have HM1:=hid hm1;have HU1:=hid hu1;have HS1:=hid hs1;have HF1:=hid hf1;clear hv hm1 HLO e1 hvb hk1 hu1 hs1 hf1;go_wp2_with fail;obtain⟨wM,hwM⟩ : ∃ wM,wM=w1.alloc (.cells #[.int .u8 99,.int .u8 97,.int .u8 114,.int .u8 116,.int .u8 117,.int .u8 108,.int .u8 97,.int .u8 114,.int .u8 121] 5 (9,10)):=⟨_,rfl⟩
  have hmrd:=zas w1;rw[<-hwM]at hmrd ⊢;have hxM:Ext w1 wM:=by rw[hwM];exact(Ext.refl _).alloc _
  have HXM:=hid hxM;obtain⟨D,hD⟩ : ∃ D,D=yg n:=⟨_,rfl⟩
  have hD9:D.take 9=magicB/\D.drop 9=putU n/\9<=D.length/\D.length<=19:=by
   rw[hD];have h9:magicB.length=9:=rfl;have h10:=(zq n).2;refine⟨?_,?_,?_,?_⟩
   ·rw[<-h9];exact List.take_left
   ·rw[<-h9];exact List.drop_left
   ·show 9<=(magicB++putU n).length;rw[List.length_append];omega
   ·show (magicB++putU n).length<=19;rw[List.length_append];omega
  have hV:=HV.out.ext hxM;rw[<-hD]at hV ⊢;obtain⟨q1,q2,q3,q4⟩:=hD9;clear hD HV hwM hkc;refine(jq wM va vc _ D magicB hV hmrd (by omega)).mono ?_;rintro e w5 ⟨rfl,hcut⟩;rw[show magicB.length=9 from rfl,if_pos ⟨q3,q1⟩,q2]at hcut;obtain⟨rfl,hrr⟩:=hcut;have hui:=yv wM _ _ hrr;have hun:=qi n (by omega) [];rw[List.append_nil]at hun;rw[hun]at hui;have HUI:=hid hui;clear hui hun hrr hmrd hxM hV q1 q2;go_wp2_with fail;refine HUI.out.mono ?_;rintro e w6 ⟨rfl,rfl⟩;dsimp only;go_wp2_with fail;refine(zbv (HM1.out.ext HXM.out).dv).mono ?_;rintro e w6 ⟨rfl,rfl⟩;have hsl:d1.safe.length=d.safe.length:=HS1.out.len;have hwb:IntKind.i64.wrap ((d1.safe.length:Int)-20)=(d1.safe.length:Int)-20:=by rw[IntKind.wrap_i64] <;> omega
  go_wp2_with fail;obtain⟨wL,hwL⟩ : ∃ wL,wL=wM.alloc (.cells #[.pointer (some ⟨g,0,none⟩),.int .i64 ((d.safe.length:Int)-20),.int .u64 n,.bool false] 192):=⟨_,rfl⟩
  rw[<-hwL];have hxL:Ext wM wL:=by rw[hwL];exact(Ext.refl _).alloc _
  have hlog:LogRow wL wM.heap.size g ((d.safe.length:Int)-20) n false:=by rw[hwL];exact heap_alloc_new _ _
  have hzL:wL.heap.size=wM.heap.size+1:=by rw[hwL];simp
  have hzM:=HXM.out.size;have hzW:=HM.out.ex.size;obtain⟨gl,hgl⟩ : ∃ gl,gl=wM.heap.size:=⟨_,rfl⟩
  rw[<-hgl]at hlog hzL ⊢;have hglW:W.heap.size<=gl:=by omega
  have hgl1:w1.heap.size<=gl:=by omega
  have hx1L:Ext w1 wL:=HXM.out.trans hxL;have hrl:ρ gl=none:=HM1.out.late HXM.out (by omega);have hlg:gl≠g:=fun e=>hgn (by rw[<-e];exact hrl);have hwt:Calls Tryz.prog 105 #[.pointer (some ⟨gl,0,none⟩)] wL (WtEnd w wL g ρ (N+22) d1 res):=by
   have hm1:=HM1.out.ext hx1L;cases res with
   | none=>exact zni (hm1.mono (show N+2<=N+21 by omega)) (by omega) HU1.out gl _ n hn false hlog hlg (by omega) (by rw[HS1.out.cur];exact HNO.out rfl)
   | some ws=>
    obtain⟨y1,y2,y3⟩:=HYES.out ws rfl;exact zlm hm1 (by omega) HU1.out gl _ n hn false hlog hlg (by omega) ws y1 (by rw[HS1.out.cur];exact y2) (fun j h=>by rw[HS1.out.cur];exact y3 j h)
  have HWT:=hid hwt;have HLOG:=hid hlog;have HX1L:=hid hx1L;have HRL:=hid hrl;clear hwL hxL hlog hx1L hwt hgl;refine HWT.out.mono ?_;rintro e w7 ⟨hk7,d7,hm7,hs7,hcase⟩;have HM7:=hid hm7;have HS7:=hid (HS1.out.trans hs7);have HK7:=hid hk7;have HLOG7:=hid (HLOG.out.keep hk7 hlg);have hK:Keep (fun k=>ρ k=none) W w7:=(HK1.out.trans (HX1L.out.keep _)).trans (hk7.mono fun k hk _ e=>hgn (by rw[<-e];exact hk));have HKK:=hid hK;have hz7:=hk7.size;clear hm7 hs7 hk7 hK HWT;rcases hcase with⟨rfl,hf7,hd7⟩|⟨hu7,hf7,hcase⟩
  ·go_wp2_with fail;refine bodyPost_ret (v:=.tuple #[.pointer none,.int .i64 2]) (by simp[results,Tryz.results59,go_sem]) rfl ?_;exact⟨ρ,d7,HM7.out.mono (by omega),RolNew.refl _ _,HKK.out,.inl ⟨rfl,fun h=>hf7 (HF1.out h),HS7.out,hd7⟩⟩
  ·have hfin : ∀ (v:Value),RdS rWr w7 (fun k=>wL.heap.size<=k) v (res.getD [])->WsOk (res.getD [])->Calls Tryz.prog 106 #[.pointer (some ⟨gl,0,none⟩),v] w7 fun e W'=>∃ x:Int,e = .returned (.int .i64 x)/\(x≠0->zo0 w W g ρ (N+300) d n (res.getD []) (.returned (.tuple #[.pointer none,.int .i64 x])) W')/\(x=0->zo0 w W g ρ (N+300) d n (res.getD []) (.returned (.tuple #[.pointer (some ⟨gl,0,none⟩),.int .i64 0])) W'):=by
    intro v hv hok;refine(zi3 HM7.out (by omega) gl _ n hn false HLOG7.out (by omega) HRL.out (fun k=>ρ k=none/\k≠gl/\k<w7.heap.size) v _ (hv.mono fun k hk hl=>⟨HM1.out.late HX1L.out (by omega),by omega,hl⟩) (fun k hk=>hk) hok (HAP.out d7 HS7.out hu7)).mono ?_;rintro e w8 ⟨rfl,ρ8,hm8,hr8,hl8,hk8⟩;have hrn:RolNew ρ ρ8 W:=fun k hk=>(hr8 k hk).imp id (fun h=>by omega);have hkn:Keep (fun k=>ρ k=none) W w8:=by
     refine(HKK.out.mono (S':=fun k=>ρ k=none/\k<W.heap.size) fun k hk _=>hk.1).trans (hk8.mono fun k hk _=>⟨hk.1,by omega⟩) |>.mono fun k hk hl=>⟨hk,hl⟩
    refine⟨_,rfl,fun hx=>⟨ρ8,_,hm8.mono (by omega),hrn,hkn,.inr ⟨d7,HS7.out,hu7,fun h=>hf7 (HF1.out h),rfl,.inl ⟨hx,rfl⟩⟩⟩,fun hx=>⟨ρ8,_,hm8.mono (by omega),hrn,hkn,.inr ⟨d7,HS7.out,hu7,fun h=>hf7 (HF1.out h),rfl,.inr ⟨hx,gl,rfl,hglW,ky hr8 HRL.out (by omega),?_⟩⟩⟩⟩;rw[hx,bu]at hl8;exact hl8
   have HFIN:=hid hfin;clear hfin;rcases hcase with⟨hres,rfl⟩|⟨ws,aw,cw,hres,rfl,hvs⟩
   ·subst hres;have hap:=HFIN.out (.slice none 0 0) (RdS.nil _ _ _) ⟨by simp,by simp⟩;have HAPP:=hid hap;clear hap HFIN;go_wp2_with fail;refine HAPP.out.mono ?_;rintro e w8 ⟨x,rfl,hx1,hx2⟩;by_cases hx:x=0
    ·subst hx;have H2:=hid (hx2 rfl);clear hx1 hx2 HAPP;go_wp2_with fail;refine bodyPost_ret (v:=.tuple #[.pointer (some ⟨gl,0,none⟩),.int .i64 0]) (by simp[results,Tryz.results59,go_sem]) rfl ?_;exact H2.out
    ·have H2:=hid (hx1 hx);clear hx1 hx2 HAPP;go_wp2_with fail;refine bodyPost_ret (v:=.tuple #[.pointer none,.int .i64 x]) (by simp[results,Tryz.results59,go_sem]) rfl ?_;exact H2.out
   ·subst hres;have hap:=HFIN.out _ hvs (HYES.out ws rfl).1;have HAPP:=hid hap;clear hap HFIN hvs;go_wp2_with fail;refine HAPP.out.mono ?_;rintro e w8 ⟨x,rfl,hx1,hx2⟩;by_cases hx:x=0
    ·subst hx;have H2:=hid (hx2 rfl);clear hx1 hx2 HAPP;go_wp2_with fail;refine bodyPost_ret (v:=.tuple #[.pointer (some ⟨gl,0,none⟩),.int .i64 0]) (by simp[results,Tryz.results59,go_sem]) rfl ?_;exact H2.out
    ·have H2:=hid (hx1 hx);clear hx1 hx2 HAPP;go_wp2_with fail;refine bodyPost_ret (v:=.tuple #[.pointer none,.int .i64 x]) (by simp[results,Tryz.results59,go_sem]) rfl ?_;exact H2.out
 ·rw[e1]at hv hm1 ⊢;dsimp only at hv hm1 ⊢;obtain⟨va,vc,rfl⟩:=hv.slice';have hkc:=kcM w1;have HV:=hid hv;have HM1:=hid hm1;have HK1:=hid hk1;clear hv hm1 HLO e1 hvb hk1;go_wp2_with fail;have hxM:Ext w1 (w1.alloc (.cells #[.int .u8 99,.int .u8 97,.int .u8 114,.int .u8 116,.int .u8 117,.int .u8 108,.int .u8 97,.int .u8 114,.int .u8 121] 5 (9,10))):=(Ext.refl _).alloc _;have hcp:=jq _ va vc _ [] magicB (HV.out.ext hxM) (zas w1) (by simp);rw[List.length_nil]at hcp;refine hcp.mono ?_;rintro e w5 ⟨rfl,hcut⟩;rw[if_neg (by simp[magicB])]at hcut;subst hcut;clear hcp;go_wp2_with fail;refine bodyPost_ret (v:=.tuple #[.pointer none,.int .i64 2]) (by simp[results,Tryz.results59,go_sem]) rfl ?_;exact⟨ρ,d1,(HM1.out.ext hxM).mono (by omega),RolNew.refl _ _,(HK1.out.mono fun k hk hl e=>by
   have:=HM.out.dv;rw[e]at hk;obtain⟨_,_,_,h⟩:=HM.out.dv;rw[h.rg]at hk;cases hk).trans (hxM.keep _),.inl ⟨rfl,hf0,hs1,hd1⟩⟩
end
end Go.Proofs.YtnadlnmclameiaaGreatDoor
