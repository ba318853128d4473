/- part 40 -/
import Derived.Test.YtnadlnmclameiaaGreatDoorTS37
set_option maxRecDepth 100000
set_option maxHeartbeats 8000000
set_option linter.all false
namespace Go.Proofs.YtnadlnmclameiaaGreatDoor
section
open Go.RowKit
def zxt (w:World) (g:Nat) (ρ:Nat->Option Rol) (z:Ix × Nat) (e:Ending) (w':World):Prop:=
 e = .returned (.int .i64 ((z.2:Nat):Int))/\∃ ρ',IxAt w' g ρ' z.1.all.length z.1.all.length z.1/\Keep (fun k=>ρ k=none) w w'/\∀ k,ρ' k≠none->ρ k≠none\/w.heap.size<=k
theorem zwp (w:World) (g:Nat) (ρ:Nat->Option Rol) (x:Ix) (h:IxAt w g ρ x.all.length x.all.length x) (hall:x.all.length<=100000) (s:ByteArray) (hs:s.size<=9223372036854775807) (k:ByteArray) (hk:k.size<=9223372036854775807) (f:Int) (hf : -9223372036854775808<=f/\f<=9223372036854775807)
  (S:Nat->Prop) (hSS : ∀ j,S j->ρ j=none) (ev:Value) (es:List Ev) (he:RdS rE w S ev es) (hle:es.length<=9223372036854775807) (hstr:(x.str s).length<=100000) :
  Calls Tryz.prog 26 #[.pointer (some ⟨g,0,none⟩),.agg #[.string s,.string k,.int .i64 f,ev]] w (zxt w g ρ (addF x (s,k,f,es))):=by
 obtain⟨la,lc,rfl,hlc1,hlc2⟩:=he.slice;obtain⟨va,gs,gk,ms,mk,h⟩:=h;obtain⟨aa,ac,rfl⟩:=h.all.slice;have H:=hid h;have HL:=hid he;obtain⟨hf1,hf2⟩:=hf;have hg0:=h.glt;obtain⟨wa,hwa⟩ : ∃ wa,wa=w.alloc (.cells #[.string s,.string k,.int .i64 f,.slice la es.length lc] 68):=⟨_,rfl⟩
 have ha1:wa.heap.size=w.heap.size+1:=by rw[hwa];simp
 have hxa:Ext w wa:=by rw[hwa];exact(Ext.refl w).alloc _
 have HB:=hid (show wa.heap[w.heap.size]? = some (.cells #[.string s,.string k,.int .i64 f,.slice la es.length lc] 68 (0,0)) by rw[hwa];exact heap_alloc_new _ _);have HX:=hid hxa;have HP:=hid (h.ext hxa);clear h he;go_enter Tryz.func26,Tryz.ntmps26;go_upto_region 3 with fail;rw[<-hwa];clear hwa hxa;obtain⟨gB,hgB⟩ : ∃ gB,gB=w.heap.size:=⟨_,rfl⟩
 rw[<-hgB]at HB ⊢;have hgg1 : ¬ g=gB:=by omega
 have hgg2 : ¬ gB=g:=by omega
 have hgBw:w.heap.size<=gB:=by omega
 have hgBa:gB<wa.heap.size:=by omega
 have hga:g<wa.heap.size:=by omega
 have HGB:=hid hgB;have HA1:=hid ha1;clear hgB ha1;have hks:k.size<=maxLen:=by unfold maxLen;omega
 have hss:s.size<=maxLen:=by unfold maxLen;omega
 have b0:wa.cell? ⟨gB,0,none⟩=some (.string s):=(cr _ HB.out)
 have b1:wa.cell? ⟨gB,1,none⟩=some (.string k):=(cr _ HB.out)
 have b2:wa.cell? ⟨gB,2,none⟩=some (.int .i64 f):=(cr _ HB.out)
 have b3:wa.cell? ⟨gB,3,none⟩=some (.slice la es.length lc):=(cr _ HB.out)
 have c0:=HP.out.c0;have c1:=HP.out.c1;have c2:=HP.out.c2;have hgn1 : ¬ g=wa.heap.size:=by omega
 have hgn2 : ¬ wa.heap.size=g:=by omega
 have hgn3 : ¬ gB=wa.heap.size:=by omega
 have hgn4 : ¬ wa.heap.size=gB:=by omega
 have hlk:=(HP.out.ext ((Ext.refl wa).drew)).key.look_ok Tryz.underlying109 (zed _) (x:=k) hks;rw[HP.out.keys k hks]at hlk;have hlk2:=(HP.out.ext (((Ext.refl wa).alloc (.cells #[.string ⟨#[]⟩,.int .i64 0,.int .i64 0,.int .i64 0,.bool false] 106)).drew)).key.look_ok Tryz.underlying109 (zed _) (x:=k) hks;rw[HP.out.keys k hks]at hlk2;have b1':(wa.alloc (.cells #[.string ⟨#[]⟩,.int .i64 0,.int .i64 0,.int .i64 0,.bool false] 106)).cell? ⟨gB,1,none⟩=some (.string k):=Ext.cellS ((Ext.refl wa).alloc _) b1;have c2':(wa.alloc (.cells #[.string ⟨#[]⟩,.int .i64 0,.int .i64 0,.int .i64 0,.bool false] 106)).cell? ⟨g,2,none⟩=some (.map (some gk)):=Ext.cellS ((Ext.refl wa).alloc _) c2;go_cut [6] (fun s6 wx=>s6 = .bool (x.key k).isSome/\Ext wa wx)
 case first=>
  cases hkk:x.key k
  ·rw[hkk]at hlk hlk2;dsimp only[Option.map,Option.getD,Option.isSome,kStr]at hlk hlk2;go_region;all_goals
    go_wp2_with fail;go_meet;exact⟨by rw[hkk];rfl,by(exact Ext.xt)⟩
  ·rename_i z
   rw[hkk]at hlk hlk2;dsimp only[Option.map,Option.getD,Option.isSome,kStr,encK]at hlk hlk2;go_region;all_goals
    go_wp2_with fail;go_meet;exact⟨by rw[hkk];rfl,by(exact Ext.xt)⟩
 case rest=>
  obtain⟨rfl,hxc⟩:=hcut;have HBo:=HB;have HXo:=HX;have HPo:=HP;have hsc:=hxc.size;clear HB HX HP hlk hlk2 b1' c2' b0 b1 b2 b3 c0 c1 c2 hgn1 hgn2 hgn3 hgn4;have HB:=hid ((Below.block hxc gB hgBa).trans HBo.out);have HX:=hid (HXo.out.trans hxc);have HP:=hid (HPo.out.ext hxc);clear HBo HXo HPo;have b0:wc.cell? ⟨gB,0,none⟩=some (.string s):=(cr _ HB.out)
  have b1:wc.cell? ⟨gB,1,none⟩=some (.string k):=(cr _ HB.out)
  have b2:wc.cell? ⟨gB,2,none⟩=some (.int .i64 f):=(cr _ HB.out)
  have b3:wc.cell? ⟨gB,3,none⟩=some (.slice la es.length lc):=(cr _ HB.out)
  have hnil:=fun (hX:Ext w wc) (w':World) (hw:Ext wc w')=>(⟨ρ,⟨_,gs,gk,ms,mk,HP.out.ext hw⟩,(hX.trans hw).keep _,fun k h=>.inl h⟩ : ∃ ρ',IxAt w' g ρ' x.all.length x.all.length x/\Keep (fun k=>ρ k=none) w w'/\∀ k,ρ' k≠none->ρ k≠none\/w.heap.size<=k)
  have HNIL:=hid (fun (w':World) (hw:Ext wc w')=>hnil HX.out w' hw);clear hnil;go_wp2_with fail;refine(zgr wc s k hs hk).mono ?_;cases hnm:kc s k
  ·have HT:=hid (show addF x (s,k,f,es)=(x,100) by unfold addF;rw[if_pos hnm]);rintro e w1 ⟨rfl,rfl⟩;clear hnm;cases hkk:x.key k;all_goals
    go_wp2_with fail;go_ret;exact⟨by rw[HT.out];rfl,by rw[HT.out];exact HNIL.out _ (Ext.refl _)⟩
  ·rintro e w1 ⟨rfl,rfl⟩;cases hkk:x.key k
   ·have hTT:=hid (show addF x (s,k,f,es)=if qs es=false then (x,102) else if f≠((x.str s).length:Int) then (x,103) else (vj s (ji x k s f es.length) f es,0) by unfold addF;rw[if_neg (by rw[hnm];simp),if_neg (by rw[hkk];simp)]);clear hnm;go_wp2_with fail;refine(zic _ S _ es (HL.out.ext HX.out) hle).mono ?_;rintro e w1 ⟨rfl,hx1⟩;clear b0 b1 b2 b3;have hs1:=hx1.size;have HB1:=hid ((Below.block hx1 gB (by omega)).trans HB.out);have HP1:=hid (HP.out.ext hx1);have b0:w1.cell? ⟨gB,0,none⟩=some (.string s):=(cr _ HB1.out)
    have b1:w1.cell? ⟨gB,1,none⟩=some (.string k):=(cr _ HB1.out)
    have b2:w1.cell? ⟨gB,2,none⟩=some (.int .i64 f):=(cr _ HB1.out)
    have b3:w1.cell? ⟨gB,3,none⟩=some (.slice la es.length lc):=(cr _ HB1.out)
    have HX1:=hid hx1;cases hrt:qs es
    ·have HT:=hid (hTT.out.trans (if_pos hrt));clear hrt;go_wp2_with fail;go_ret;exact⟨by rw[HT.out];rfl,by rw[HT.out];exact HNIL.out _ (by(exact Ext.xt))⟩
    ·have HR:=hid (zab hrt);have hTT:=hid (hTT.out.trans (if_neg (by rw[hrt];simp)));clear hrt;have c1:=HP1.out.c1;have hlk:=(HP1.out.ext ((Ext.refl w1).drew)).str.look Tryz.underlying108 (zan _) (x:=s) hss;obtain⟨sa,sc,hsv⟩:=(HP1.out.strs s hss).slice;rw[show (ms s).getD (.slice none 0 0)=_ from hsv]at hlk;dsimp only[kStr]at hlk;clear hsv hx1;by_cases hmm:f=((x.str s).length:Int)
     ·have HT:=hid (hTT.out.trans (if_neg (by simp[hmm])));have hm1:(f == ((x.str s).length:Int))=true:=by rw[beq_iff_eq];exact hmm
      have hm2:(f != ((x.str s).length:Int))=false:=by rw[bne_eq_false_iff_eq];exact hmm
      have HMM:=hid hmm;clear hmm;go_wp2_with fail;go_region;go_upto_if 49 with fail;obtain⟨tb,htb⟩ : ∃ tb,tb=(!k.toList.isEmpty):=⟨_,rfl⟩
      rw[<-htb];have HTB:=hid htb;clear htb;go_cut [] (fun wx=>(∃ nk',nk'<=x.all.length+1/\IxAt wx g ρ x.all.length nk' (ji x k s f es.length))/\wx.heap[gB]? = some (.cells #[.string s,.string k,.int .i64 f,.slice la es.length lc] 68 (0,0))/\Keep (fun j=>ρ j=none) w wx/\w.heap.size<wx.heap.size)
      case first=>
       cases tb
       ·have h0:k.size=0:=by
         by_cases h0:k.size=0
         ·exact h0
         ·have h1:=zc8 h0;have h2:=HTB.out;rw[h1]at h2;simp at h2
        have HK:=hid (show ji x k s f es.length=x by unfold ji;rw[if_pos (zje h0)]);clear h0;go_wp2_with fail;go_meet;rw[HK.out];refine⟨⟨x.all.length,by omega,⟨_,gs,gk,ms,mk,HP1.out.ext (by(exact Ext.xt))⟩⟩,(Below.block (show Ext w1 _ by(exact Ext.xt)) gB (by omega)).trans HB1.out,((HX.out.trans HX1.out).trans (show Ext w1 _ by(exact Ext.xt))).keep _,?_⟩;show _<w1.heap.size;omega
       ·have h0:k.size≠0:=fun h0=>by
         have h1:=zc7 h0;have h2:=HTB.out;rw[h1]at h2;simp at h2
        have HK:=hid (show ji x k s f es.length={ x with key:=fun t=>if t=k then some (s,f,(x.all.length:Int),(es.length:Int),false) else x.key t } by unfold ji;rw[if_neg (fun e=>h0 (by rw[e];rfl))]);clear h0;have c2:=HP1.out.c2;have c0:=HP1.out.c0;obtain⟨w2,hst,hm2,hg2,hs2⟩:=(HP1.out.ext (show Ext w1 w1.drew.drew by(exact Ext.xt))).key.store Tryz.underlying109 (by unfold maxLen;omega) (x:=k) hks (encK (s,f,(x.all.length:Int),(es.length:Int),false));dsimp only[kStr,encK]at hst;go_wp2_with fail;have HG2:=hid hg2;have HM2:=hid hm2;have HS2:=hid hs2;clear hg2 hm2 hs2;go_wp2_with fail;have hxd:Ext w1 w1.drew.drew:=by(exact Ext.xt)
        refine jr (fun w'=>w'.cell? ⟨g,2,none⟩=some (.map (some gk))/\w'.cell? ⟨gB,1,none⟩=some (.string k)/\w'.cell? ⟨gB,0,none⟩=some (.string s)/\w'.cell? ⟨gB,2,none⟩=some (.int .i64 f)/\w'.cell? ⟨g,0,none⟩=some (.slice aa x.all.length ac)/\w'.cell? ⟨gB,3,none⟩=some (.slice la es.length lc)) 20 (by kernel_rfl) ⟨Ext.cellS hxd c2,Ext.cellS hxd b1,Ext.cellS hxd b0,Ext.cellS hxd b2,Ext.cellS hxd c0,Ext.cellS hxd b3⟩ (fun hS=>?_);(refine zf 0 rfl ?_;(try simp only[Act.put,tq0,tq1,tq2,tq3,tq4,tq5]));(refine zf 1 rfl ?_;(try simp only[Act.put,tq0,tq1,tq2,tq3,tq4,tq5]));(refine zf 2 rfl ?_;(try simp only[Act.put,tq0,tq1,tq2,tq3,tq4,tq5]));(refine zf 3 rfl ?_;(try simp only[Act.put,tq0,tq1,tq2,tq3,tq4,tq5]));(refine zf 4 rfl ?_;(try simp only[Act.put,tq0,tq1,tq2,tq3,tq4,tq5]));(refine zf 5 rfl ?_;(try simp only[Act.put,tq0,tq1,tq2,tq3,tq4,tq5]));(refine zf 6 rfl ?_;(try simp only[Act.put,tq0,tq1,tq2,tq3,tq4,tq5]));(refine zf 7 rfl ?_;(try simp only[Act.put,tq0,tq1,tq2,tq3,tq4,tq5]));(refine zf 8 rfl ?_;(try simp only[Act.put,tq0,tq1,tq2,tq3,tq4,tq5]));(refine zf 9 rfl ?_;(try simp only[Act.put,tq0,tq1,tq2,tq3,tq4,tq5]));(refine zf 10 rfl ?_;(try simp only[Act.put,tq0,tq1,tq2,tq3,tq4,tq5]));(refine zf 11 rfl ?_;(try simp only[Act.put,tq0,tq1,tq2,tq3,tq4,tq5]));(refine zf 12 rfl ?_;(try simp only[Act.put,tq0,tq1,tq2,tq3,tq4,tq5]));(refine zf 13 rfl ?_;(try simp only[Act.put,tq0,tq1,tq2,tq3,tq4,tq5]));(refine zf 14 rfl ?_;(try simp only[Act.put,tq0,tq1,tq2,tq3,tq4,tq5]));(refine zf 15 rfl ?_;(try simp only[Act.put,tq0,tq1,tq2,tq3,tq4,tq5]));(refine zf 16 rfl ?_;(try simp only[Act.put,tq0,tq1,tq2,tq3,tq4,tq5]));(refine zf 17 rfl ?_;(try simp only[Act.put,tq0,tq1,tq2,tq3,tq4,tq5]));(refine zf 18 rfl ?_;(try simp only[Act.put,tq0,tq1,tq2,tq3,tq4,tq5]));(refine zf 19 rfl ?_;(try simp only[Act.put,tq0,tq1,tq2,tq3,tq4,tq5]));(refine qb (i:=20) (by kernel_rfl) rfl (fun K hK=>?_));go_simp;(refine hK.out _ _ (fun h=>absurd rfl h) (fun _=>?_);clear hK K;refine js (by kernel_rfl) ?_ _);refine NoPanic.normal ?_;go_wp2_with fail;go_meet;rw[HK.out];have hgk:=HP1.out.rk;refine⟨⟨x.all.length+1,by omega,⟨_,gs,gk,ms,_,(HP1.out.ext (show Ext w1 w1.drew.drew by(exact Ext.xt))).setKey hks HM2.out HG2.out HS2.out⟩⟩,?_,?_,?_⟩
        ·rw[HG2.out.block gB (by show _<w1.heap.size;omega) (fun e=>by
          have e:=Option.some.inj e;have:=HGB.out;rw[e]at this;have:=HP.out.lt gk (by rw[hgk];simp);have h5:=H.out.lt gk (by rw[hgk];simp);omega)]
         exact HB1.out
        ·refine((HX.out.trans HX1.out).keep _).trans ((show Keep _ w1 w1.drew.drew from (show Ext w1 _ by(exact Ext.xt)).keep _).trans ((zl HG2.out).mono fun j hj _ e=>?_));rw[Option.some.inj e,hgk]at hj;simp at hj
        ·rw[HS2.out];show _<w1.heap.size;omega
      case rest=>
       obtain⟨⟨nk',hnk,hi0⟩,hbx,hkx,hsx⟩:=hcut;clear HTB hlk c1 b0 b1 b2 b3 HNIL HP1 HB1 HX1 HP HB HX hxc hsc hs1 hgBa hga;obtain⟨x1,hx1⟩ : ∃ x1,x1=ji x k s f es.length:=⟨_,rfl⟩
       have hx1a:x1.all=x.all:=by rw[hx1,zcr]
       have hx1s:x1.str=x.str:=by rw[hx1,zir]
       rw[<-hx1]at hi0;have HT':=hid (show addF x (s,k,f,es)=(vj s x1 f es,0) by rw[HT.out,hx1]);obtain⟨X,hX⟩ : ∃ X,vj s x1 f es=X:=⟨_,rfl⟩
       have HI0:=hid (show IxAt wc g ρ x1.all.length nk' x1 by rw[hx1a];exact hi0);have hal:x1.all.length=x.all.length:=by rw[hx1a]
       have hsl:(x1.str s).length=(x.str s).length:=by rw[hx1s]
       have HXX:=hid (show vj s x1 (f+(0:Nat)) (es.drop 0)=X by rw[List.drop_zero,<-hX];simp);have HREND:=hid (show addF x (s,k,f,es)=(X,0) by rw[HT'.out,hX]);have hff:(0:Int)<=f/\f<=100000:=by have:=HMM.out;omega
       obtain⟨hff1,hff2⟩:=hff;have hrb:ρ gB=none:=by
        by_cases h:ρ gB=none
        ·exact h
        ·have:=H.out.lt gB h;omega
       have HBX:=hid hbx;have HKX:=hid hkx;have HRB:=hid hrb;clear hi0 hx1 hx1a hx1s HT HT' hX hbx hkx hrb;have b3:wc.cell? ⟨gB,3,none⟩=some (.slice la es.length lc):=(cr _ HBX.out)
       go_wp2_with fail;clear b3;go_loopw [73] (fun u73 wr=>∃ i:Nat,u73 = .int .i64 i/\i<=es.length/\AddRel w g gB (.cells #[.string s,.string k,.int .i64 f,.slice la es.length lc] 68 (0,0)) ρ s f es x.all.length nk' X i wr) (fun u73 _=>es.length-(intOf u73).toNat);case atStart=>exact⟨0,rfl,Nat.zero_le _,ρ,x1,HI0.out,HXX.out,by omega,by omega,by omega,HBX.out,HKX.out,fun j h=>.inl h,HRB.out,hsx⟩
       case round=>
        clear HI0 HXX HBX HKX hsx;obtain⟨wo,rfl⟩ : ∃ wo:World,wo=wr:=⟨_,rfl⟩
        obtain⟨i,rfl,hi,ρ',xi,hix,hadd,hal1,hal2,hsl2,hbx,hkx,hrr,hrb,hsx⟩:=hrel;have HIX:=hid hix;have HADD:=hid hadd;have HBX:=hid hbx;have HKX:=hid hkx;have HRR:=hid hrr;have HRB2:=hid hrb;clear hix hadd hbx hkx hrr hrb;by_cases hlt:i<es.length
        ·have hrd:=RdS.mono (HL.out) (S':=fun j=>S j/\j<w.heap.size) (fun j hj hl=>⟨hj,hl⟩);have hrd:=hrd.kept (HKX.out.mono (S':=fun j=>S j/\j<w.heap.size) fun j hj _=>hSS j hj.1);obtain⟨ge,oe,ce,fv,e,hge,hge2,d0,d1,d2,h1,h2,h3⟩:=hrd.atE i hlt;simp only[Value.slice.injEq]at e;obtain⟨rfl,-,rfl⟩:=e;obtain⟨fa,fc,rfl,-,-⟩:=h3.slice;have hdrop:=HADD.out;rw[List.drop_eq_getElem_cons hlt,zov]at hdrop;have hfl:=(bi (HR.out.1 es[i] (List.getElem_mem hlt))).1;generalize hev:es[i]=ev at d0 d1 d2 h1 h2 h3 hdrop hfl;obtain⟨t,n,fs⟩:=ev;dsimp only at d0 d1 d2 h1 h2 h3 hfl;obtain⟨h2a,h2b⟩:=h2;have HDROP:=hid hdrop;have hle16:=HR.out.2.2;have H3:=hid h3;clear hev h3 hrd hdrop HADD hge2;go_wp2_with fail;obtain⟨wb,hwb⟩ : ∃ wb,wb=wo.alloc (.cells #[.string t,.int .i64 n,.slice fa fs.length fc] 58):=⟨_,rfl⟩
         rw[<-hwb];have hxb:Ext wo wb:=by rw[hwb];exact(Ext.refl _).alloc _
         have hre:wb.heap[wo.heap.size]? = some (.cells #[.string t,.int .i64 n,.slice fa fs.length fc] 58 (0,0)):=by rw[hwb];exact heap_alloc_new _ _
         have hsb:wb.heap.size=wo.heap.size+1:=by rw[hwb];simp
         obtain⟨gE,hgE⟩ : ∃ gE,gE=wo.heap.size:=⟨_,rfl⟩
         rw[<-hgE]at hre ⊢;obtain⟨va',gs',gk',ms',mk',hp0⟩:=HIX.out;have hrE:ρ' gE=none:=by
          by_cases h:ρ' gE=none
          ·exact h
          ·have:=hp0.lt gE h;omega
         have HP:=hid (hp0.ext hxb);have hgb:g<wo.heap.size:=hp0.glt;have hEw:gE<wb.heap.size:=by omega
         have hgE1 : ¬ g=gE:=by omega
         have hgE2 : ¬ gE=g:=by omega
         have hBE : ¬ gB=gE:=by
          intro e;have:=(blt HBX.out)
          omega
         have HH3:=hid (H3.out.ext hxb);have HBX2:=hid ((Below.block hxb gB (blt HBX.out)).trans HBX.out);have HRE:=hid hre;have HXB:=hid hxb;obtain⟨aa',ac',rfl⟩:=hp0.all.slice;have hwsz:w.heap.size<wb.heap.size:=by omega
         clear hwb hgE hre hsb hxb hp0 d0 d1 d2 HBX hgb H3;have c0:=HP.out.c0;have c1:=HP.out.c1;have b0:wb.cell? ⟨gB,0,none⟩=some (.string s):=(cr _ HBX2.out)
         have b2:wb.cell? ⟨gB,2,none⟩=some (.int .i64 f):=(cr _ HBX2.out)
         have e0:wb.cell? ⟨gE,0,none⟩=some (.string t):=(cr _ HRE.out)
         have e1:wb.cell? ⟨gE,1,none⟩=some (.int .i64 n):=(cr _ HRE.out)
         have e2:wb.cell? ⟨gE,2,none⟩=some (.slice fa fs.length fc):=(cr _ HRE.out)
         obtain⟨sa',sc',hsv⟩:=(HP.out.strs s hss).slice;have hlk:=(HP.out.ext ((Ext.refl wb).drew)).str.look Tryz.underlying108 (zan _) (x:=s) hss;have hlk2:=(HP.out.ext (((Ext.refl wb).alloc (.cells #[.int .i64 (xi.all.length:Int)] 3)).drew)).str.look Tryz.underlying108 (zan _) (x:=s) hss;rw[show (ms' s).getD (.slice none 0 0)=_ from hsv]at hlk hlk2;dsimp only[kStr]at hlk hlk2;have HSV:=hid hsv;clear hsv;have hgw:=HP.out.glt;have hgn1 : ¬ g=wb.heap.size:=by omega
         have hgn2 : ¬ wb.heap.size=g:=by omega
         have hBw:gB<wb.heap.size:=(blt HBX2.out)
         have hgn3 : ¬ gB=wb.heap.size:=by omega
         have hgn4 : ¬ wb.heap.size=gB:=by omega
         go_wp2_with fail;have hwl : ∀ w',Ext wb w'->(Instr.lookup 108 (.map (some gs')) (.string s) false).run Tryz.prog w' = .ok (.slice sa' (xi.str s).length sc') w':=fun w' hw=>by
          have:=(HP.out.ext hw).str.look Tryz.underlying108 (zan _) (x:=s) hss;rw[show (ms' s).getD (.slice none 0 0)=_ from HSV.out]at this;exact this
         have HWL:=hid hwl;clear hwl;refine jr (fun w'=>w'.cell? ⟨g,1,none⟩=some (.map (some gs'))/\w'.cell? ⟨gB,0,none⟩=some (.string s)/\w'.cell? ⟨g,0,none⟩=some (.slice aa' xi.all.length ac')/\(Instr.lookup 108 (.map (some gs')) (.string s) false).run Tryz.prog w' = .ok (.slice sa' (xi.str s).length sc') w') 20 (by kernel_rfl) ⟨by simpa using c1,by simpa using b0,by simpa using c0,HWL.out _ (by(exact Ext.xt))⟩ (fun hS=>?_);(refine zf 0 rfl ?_;(try simp only[Act.put,tq0,tq1,tq2,tq3,tq4,tq5]));(refine zf 1 rfl ?_;(try simp only[Act.put,tq0,tq1,tq2,tq3,tq4,tq5]));(refine zf 2 rfl ?_;(try simp only[Act.put,tq0,tq1,tq2,tq3,tq4,tq5]));(refine zf 3 rfl ?_;(try simp only[Act.put,tq0,tq1,tq2,tq3,tq4,tq5]));(refine zf 4 rfl ?_;(try simp only[Act.put,tq0,tq1,tq2,tq3,tq4,tq5]));(refine zf 5 rfl ?_;(try simp only[Act.put,tq0,tq1,tq2,tq3,tq4,tq5]));(refine zf 6 rfl ?_;(try simp only[Act.put,tq0,tq1,tq2,tq3,tq4,tq5]));(refine zf 7 rfl ?_;(try simp only[Act.put,tq0,tq1,tq2,tq3,tq4,tq5]));(refine zf 8 rfl ?_;(try simp only[Act.put,tq0,tq1,tq2,tq3,tq4,tq5]));(refine zf 9 rfl ?_;(try simp only[Act.put,tq0,tq1,tq2,tq3,tq4,tq5]));(refine zf 10 rfl ?_;(try simp only[Act.put,tq0,tq1,tq2,tq3,tq4,tq5]));(refine zf 11 rfl ?_;(try simp only[Act.put,tq0,tq1,tq2,tq3,tq4,tq5]));(refine zf 12 rfl ?_;(try simp only[Act.put,tq0,tq1,tq2,tq3,tq4,tq5]));(refine zf 13 rfl ?_;(try simp only[Act.put,tq0,tq1,tq2,tq3,tq4,tq5]));(refine zf 14 rfl ?_;(try simp only[Act.put,tq0,tq1,tq2,tq3,tq4,tq5]));(refine zf 15 rfl ?_;(try simp only[Act.put,tq0,tq1,tq2,tq3,tq4,tq5]));(refine zf 16 rfl ?_;(try simp only[Act.put,tq0,tq1,tq2,tq3,tq4,tq5]));(refine zf 17 rfl ?_;(try simp only[Act.put,tq0,tq1,tq2,tq3,tq4,tq5]));(refine qb (i:=18) (by kernel_rfl) rfl (fun K hK=>?_));go_simp;have hxA:Ext wb ((wb.alloc (.cells #[.int .i64 (xi.all.length:Int)] 3)).drew):=by(exact Ext.xt)
         (refine hK.out _ _ (fun _=>⟨Ext.cellS hxA c1,Ext.cellS hxA b0,Ext.cellS hxA c0,HWL.out _ hxA⟩) (fun hS=>?_);clear hK K);have hS:=hS (by decide);(refine qb (i:=19) (by kernel_rfl) rfl (fun K hK=>?_));refine zh6 rfl _ _ rfl 0 (.slice sa' (xi.str s).length sc') (xi.str s) rfl ?_ (xi.all.length:Int) ⟨by omega,by omega⟩ _ rfl (heap_alloc_new _ _) (by omega) (by omega) ?_
         ·rw[<-HSV.out];exact(HP.out.strs s hss).ext hxA
         intro v6 w6 k1 k2 k3;rw[<-HSV.out]at k2 k3;obtain⟨a6,c6,rfl⟩:=k1.snoc;obtain⟨hM6,hcB,w7,hrun,hp7,hk7,hr7,hs7,hc7⟩:=HP.out.storeStr hss (by unfold maxLen;omega) hxA k1 k2 k3;have q1:=hcB ⟨g,1,none⟩ _ (.inr rfl) c1;have q2:=hcB ⟨gB,0,none⟩ _ (.inl HRB2.out) b0;have q3:=hcB ⟨g,0,none⟩ _ (.inr rfl) c0;have p2:=hc7 ⟨gB,0,none⟩ _ (.inl HRB2.out) b0;have p3:=hc7 ⟨g,0,none⟩ _ (.inr rfl) c0;have b2:=hc7 ⟨gB,2,none⟩ _ (.inl HRB2.out) b2;have e0:=hc7 ⟨gE,0,none⟩ _ (.inl hrE) e0;have e1:=hc7 ⟨gE,1,none⟩ _ (.inl hrE) e1;have e2:=hc7 ⟨gE,2,none⟩ _ (.inl hrE) e2;have hp7:IxP w7 g (rolS ρ' (.slice a6 ((xi.str s).length+1) c6) s) (xi.all.length+1) nk' (zdv xi s) (.slice aa' xi.all.length ac') gs' gk' _ mk':=hp7;generalize rolS ρ' (.slice a6 ((xi.str s).length+1) c6) s=ρ7 at hp7 hr7;have hn7 : ∀ j,j<wb.heap.size->ρ' j=none->ρ7 j=none:=fun j hj hr=>by
          by_cases h:ρ7 j=none
          ·exact h
          ·rcases hr7 j h with h'|h'
           ·exact absurd hr h'
           ·omega
         have hrB7:=hn7 gB hBw HRB2.out;have hrE7:=hn7 gE hEw hrE;have hnS : ∀ j,ρ j=none/\j<w.heap.size->ρ' j=none:=fun j hj=>by
          by_cases h:ρ' j=none
          ·exact h
          ·rcases HRR.out j h with h'|h'
           ·exact absurd hj.1 h'
           ·omega
         have HF7:=hid (HH3.out.kept (hk7.mono (S':=fun j=>S j/\j<w.heap.size) fun j hj _=>hnS j ⟨hSS j hj.1,hj.2⟩));have HP7:=hid hp7;have HK7:=hid hk7;have HR7:=hid hr7;have HN7:=hid hn7;have HNS:=hid hnS;have hz7:wb.heap.size<=w7.heap.size:=hk7.size;have hg7:g<w7.heap.size:=by omega
         have hle2:xi.all.length<=200000:=by omega
         clear hp7 hr7 hn7 hnS hk7 hc7 hcB k1 k2 k3;(refine hK.out _ _ (fun _=>⟨q1,q2,q3,?_⟩) (fun hS=>?_);clear hK K)
         ·have:=hM6.look Tryz.underlying108 (zan _) (x:=s) hss;rw[show (ms' s).getD (.slice none 0 0)=_ from HSV.out]at this;exact this
         clear q1 q2 q3 hS hM6;(refine qb (i:=20) (by kernel_rfl) rfl (fun K hK=>?_));go_simp;(refine hK.out _ _ (fun h=>absurd rfl h) (fun _=>?_);clear hK K;refine js (by kernel_rfl) ?_ _);refine NoPanic.normal ?_;clear hrun c0 c1 b0 hxA;go_wp2_with fail;have hsum:IntKind.i64.wrap (f+(i:Int))=f+(i:Int):=IntWalk.i64_in _ (by omega);have hx7:Ext w7 w7.drew:=by(exact Ext.xt)
         refine jr (fun w'=>w'.cell? ⟨g,0,none⟩=some (.slice aa' xi.all.length ac')/\w'.cell? ⟨gB,0,none⟩=some (.string s)/\w'.cell? ⟨gB,2,none⟩=some (.int .i64 f)/\w'.cell? ⟨gE,0,none⟩=some (.string t)/\w'.cell? ⟨gE,1,none⟩=some (.int .i64 n)/\w'.cell? ⟨gE,2,none⟩=some (.slice fa fs.length fc)) 23 (by kernel_rfl) ⟨Ext.cellS hx7 p3,Ext.cellS hx7 p2,Ext.cellS hx7 b2,Ext.cellS hx7 e0,Ext.cellS hx7 e1,Ext.cellS hx7 e2⟩ (fun hS=>?_);(refine zf 0 rfl ?_;(try simp only[Act.put,tq0,tq1,tq2,tq3,tq4,tq5]));(refine zf 1 rfl ?_;(try simp only[Act.put,tq0,tq1,tq2,tq3,tq4,tq5]));(refine zf 2 rfl ?_;(try simp only[Act.put,tq0,tq1,tq2,tq3,tq4,tq5]));(refine zf 3 rfl ?_;(try simp only[Act.put,tq0,tq1,tq2,tq3,tq4,tq5]));(refine zf 4 rfl ?_;(try simp only[Act.put,tq0,tq1,tq2,tq3,tq4,tq5]));(refine zf 5 rfl ?_;(try simp only[Act.put,tq0,tq1,tq2,tq3,tq4,tq5]));(refine zf 6 rfl ?_;(try simp only[Act.put,tq0,tq1,tq2,tq3,tq4,tq5]));(refine zf 7 rfl ?_;(try simp only[Act.put,tq0,tq1,tq2,tq3,tq4,tq5]));(refine zf 8 rfl ?_;(try simp only[Act.put,tq0,tq1,tq2,tq3,tq4,tq5]));(refine zf 9 rfl ?_;(try simp only[Act.put,tq0,tq1,tq2,tq3,tq4,tq5]));(refine zf 10 rfl ?_;(try simp only[Act.put,tq0,tq1,tq2,tq3,tq4,tq5]));(refine zf 11 rfl ?_;(try simp only[Act.put,tq0,tq1,tq2,tq3,tq4,tq5]));(refine zf 12 rfl ?_;(try simp only[Act.put,tq0,tq1,tq2,tq3,tq4,tq5]));(refine zf 13 rfl ?_;(try simp only[Act.put,tq0,tq1,tq2,tq3,tq4,tq5]));(refine zf 14 rfl ?_;(try simp only[Act.put,tq0,tq1,tq2,tq3,tq4,tq5]));(refine zf 15 rfl ?_;(try simp only[Act.put,tq0,tq1,tq2,tq3,tq4,tq5]));(refine zf 16 rfl ?_;(try simp only[Act.put,tq0,tq1,tq2,tq3,tq4,tq5]));clear hsum;(refine qb (i:=17) (by kernel_rfl) rfl (fun K hK=>?_));go_simp;go_at_call 56;refine(zhq _ _ t n _ fs (HF7.out.ext hx7) (by omega)).mono ?_;rintro e w8 ⟨fv8,rfl,hr8,hx8⟩;obtain⟨fa8,fc8,rfl,-,-⟩:=hr8.slice;have hx8:Ext w7 w8:=hx7.trans hx8;have HR8:=hid (show RdS rF w8 (fun k=>w7.heap.size<=k/\k<w8.heap.size) (.slice fa8 fs.length fc8) fs from hr8.rd.upto);have hs8:=hx8.size;clear hr8;(refine hK.out _ _ (fun _=>⟨Ext.cellS hx8 p3,Ext.cellS hx8 p2,Ext.cellS hx8 b2,Ext.cellS hx8 e0,Ext.cellS hx8 e1,Ext.cellS hx8 e2⟩) (fun hS=>?_);clear hK K);have hS:=hS (by decide);(refine zf 18 rfl ?_;(try simp only[Act.put,tq0,tq1,tq2,tq3,tq4,tq5]));(refine qb (i:=19) (by kernel_rfl) rfl (fun K hK=>?_));go_simp;obtain⟨wE,hwE⟩ : ∃ wE,wE=w8.alloc (.cells #[.int .i64 (xi.all.length:Int),.string s,.int .i64 (f+(i:Int)),.string t,.int .i64 n,.slice fa8 fs.length fc8] 100):=⟨_,rfl⟩
         rw[<-hwE];have hxE:Ext w8 wE:=by rw[hwE];exact(Ext.refl _).alloc _
         have hrow:wE.heap[w8.heap.size]? = some (.cells #[.int .i64 (xi.all.length:Int),.string s,.int .i64 (f+(i:Int)),.string t,.int .i64 n,.slice fa8 fs.length fc8] 100 (0,0)):=by rw[hwE];exact heap_alloc_new _ _
         have hxE7:=hx8.trans hxE;have hSL : ∀ k,(ρ7 k=some .elem\/(w7.heap.size<=k/\k<w8.heap.size))->k<wE.heap.size:=fun k hk=>by rw[hwE];exact zvw HP7.out hs8 _ k hk
         clear hwE;(refine hK.out _ _ (fun _=>⟨Ext.cellS hxE7 p3,Ext.cellS hxE7 p2,Ext.cellS hxE7 b2,Ext.cellS hxE7 e0,Ext.cellS hxE7 e1,Ext.cellS hxE7 e2⟩) (fun hS=>?_);clear hK K);have hS:=hS (by decide);(refine qb (i:=20) (by kernel_rfl) rfl (fun K hK=>?_));refine zls rfl _ _ rfl 0 (fun k=>ρ7 k=some .elem\/(w7.heap.size<=k/\k<w8.heap.size)) (.slice aa' xi.all.length ac') xi.all rfl (HP7.out.allAt hxE7 _) ((xi.all.length:Int),s,f+(i:Int),t,n,fs) (.slice fa8 fs.length fc8) ⟨by dsimp only;omega,by dsimp only;omega⟩ hs ⟨by dsimp only;omega,by dsimp only;omega⟩ h1 ⟨h2a,h2b⟩ ((HR8.out.ext hxE).mono (fun k hk _=>.inr hk)) rfl _ rfl hrow hSL (by omega) (by omega) ?_;intro v9 w9 k1 k2 k3;obtain⟨a9,c9,rfl⟩:=OwnS.snoc (xs:=xi.all) k1;obtain⟨hcB,hfz,hp9,hk9,hr9⟩:=HP7.out.storeAll hx8 hxE k1 k2 k3;have q0:=hcB ⟨g,0,none⟩ _ (.inr rfl) p3;(refine hK.out _ _ (fun _=>⟨q0,hcB ⟨gB,0,none⟩ _ (.inl hrB7) p2,hcB ⟨gB,2,none⟩ _ (.inl hrB7) b2,hcB ⟨gE,0,none⟩ _ (.inl hrE7) e0,hcB ⟨gE,1,none⟩ _ (.inl hrE7) e1,hcB ⟨gE,2,none⟩ _ (.inl hrE7) e2⟩) (fun hS=>?_);clear hK K);have hS:=hS (by decide);(refine qb (i:=21) (by kernel_rfl) rfl (fun K hK=>?_));go_simp;refine hK.out _ _ (fun _=>hS) (fun _=>?_);clear hK K;(refine zf 22 rfl ?_;(try simp only[Act.put,tq0,tq1,tq2,tq3,tq4,tq5]));clear hS p2 p3 b2 e0 e1 e2;generalize rolA ρ7 (.slice a9 (xi.all.length+1) c9) w7.heap.size w8.heap.size=ρ9 at hp9 hr9;have hp9:IxP _ g ρ9 _ nk' (addE s xi (f+(i:Int)) (t,n,fs)) _ _ _ _ _:=hp9;have HP9:=hid hp9;have HK9:=hid hk9;have HR9:=hid hr9;clear hp9 hk9 hr9 hcB k1 k2 k3;(refine qb (i:=23) (by kernel_rfl) rfl (fun K hK=>?_));go_simp;(refine hK.out _ _ (fun h=>absurd rfl h) (fun _=>?_);clear hK K;refine js (by kernel_rfl) ?_ _);refine NoPanic.normal ?_;go_wp2_with fail;go_roundw;case rel=>exact⟨i+1,by go_num,by omega,AddRel.step (e:=(t,n,fs)) HDROP.out hal1 hal2 hsl2 HBX2.out HKX.out HRR.out HRB2.out hsx HXB.out HK7.out HR7.out HP9.out HK9.out HR9.out⟩
         case measure=>simp[intOf];omega
        ·obtain rfl:i=es.length:=by omega
         have hXe:xi=X:=by
          have:=HADD.out;rw[List.drop_length]at this;exact this
         subst hXe;go_wp2_with fail;go_ret;refine⟨by rw[HREND.out];rfl,?_⟩;rw[HREND.out];dsimp only;exact⟨ρ',HIX.out.mono (Nat.le_refl _) (by have:=HR.out.2.1;omega),HKX.out,HRR.out⟩
     ·have HT:=hid (hTT.out.trans (if_pos hmm));have hm1:(f == ((x.str s).length:Int))=false:=by rw[beq_eq_false_iff_ne];exact hmm
      have hm2:(f != ((x.str s).length:Int))=true:=by rw[bne_iff_ne];exact hmm
      clear hmm;go_wp2_with fail;go_region;all_goals
       go_wp2_with fail;go_ret;exact⟨by rw[HT.out];rfl,by rw[HT.out];exact HNIL.out _ (HX1.out.trans (by(exact Ext.xt)))⟩
   ·have HT:=hid (show addF x (s,k,f,es)=(x,101) by unfold addF;rw[if_neg (by rw[hnm];simp),if_pos (by rw[hkk];rfl)]);clear hnm;go_wp2_with fail;go_ret;exact⟨by rw[HT.out];rfl,by rw[HT.out];exact HNIL.out _ (Ext.refl _)⟩
end
end Go.Proofs.YtnadlnmclameiaaGreatDoor
