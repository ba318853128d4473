/- part 29 -/
import Derived.Test.YtnadlnmclameiaaGreatDoorTS28
set_option maxRecDepth 100000
set_option maxHeartbeats 8000000
set_option linter.all false
namespace Go.Proofs.YtnadlnmclameiaaGreatDoor
section
open Go.RowKit Go.Maps
theorem zr1 (b:List UInt8) (s i:Nat) (hs:b.length=s) (hi:512*i<=s):b.take (512*i)++pre b s i=b.take (512*i+min 512 (s-512*i)):=by
 unfold pre;rw[<-List.take_add]
section
variable {w W:World}{g:Nat}{ρ:Nat->Option DRol}{N:Nat}{d:Dv}{gl n:Nat}{H:Int->Bk}{φ:Nat->Option FRol}{gf:Nat}{gc ga gm:Nat}{gt:Option Nat}{gn:Nat}{qn:Option Nat}{lv:Value}
theorem zx8 (s nw lst:Nat) (dir:Option Nat) (hla:LogAt w W g ρ N d gl 64 n H) (hc:Calm d) (hN:N<=999900000) (h:FsP W φ gf gl H ⟨some s,nw,lst,0,dir⟩ gc ga gm gt gn qn lv) (hdis : ∀ j,φ j≠none->ρ j=none/\j≠gl/\w.heap.size<=j) (hs:s<=8192) (b:List UInt8) (hb:b.length=s) (hpre : ∀ i:Nat,i<nbN s->pre b s i <+: H (36+(i:Int))) :
  Calls Tryz.prog 66 #[.pointer (some ⟨gf,0,none⟩),.string seg0,.int .i64 0,.int .i64 s] W fun e W'=>∃ v,e = .returned (.tuple #[v,.int .i64 0])/\OwnB W' W.heap.size v b/\
   ∃ d' φ',LogAt w W' g ρ (N+16) d' gl 64 n H/\Calm d'/\FsP W' φ' gf gl H ⟨some s,nw,lst,nbN s,dir⟩ gc ga gm gt gn qn lv/\(∀ j,φ' j≠none->ρ j=none/\j≠gl/\w.heap.size<=j)/\(∀ j,v.ownBlock=some j->φ' j=none)/\FStep W W' ρ ρ gl φ φ':=by
 have HLA:=hid hla;have HC:=hid hc;have H0:=hid h;have HDIS:=hid hdis;have HB:=hid hb;have HPRE:=hid hpre;have HND:=hid (h.node s rfl);have HAT:=hid (show FsAt w W g ρ N d gl n H (fun _=>True) φ gf ⟨some s,nw,lst,0,dir⟩ from⟨hla.putG (by omega) fun _ _=>trivial,⟨_,_,_,_,_,_,_,h⟩,hdis⟩);have h16:=zah hs;clear hla hc h hdis hb hpre;go_enter Tryz.func66,Tryz.ntmps66;go_wp2_with fail;refine(ze8 HAT.out H0.out rfl).mono ?_;rintro e w1 ⟨rfl,rfl⟩;go_wp2_with fail;refine(zaf W gn qn s _ HND.out.1).mono ?_;rintro e w1 ⟨rfl,rfl⟩;have i0 : ¬ (s:Int)<0:=by omega
 go_wp2_with fail;refine(zaf W gn qn s _ HND.out.1).mono ?_;rintro e w1 ⟨rfl,rfl⟩;go_wp2_with fail;go_loopw [2,3,12] (fun u2 u3 u12 wr=>∃ (i:Nat) (di:Dv) (φi:Nat->Option FRol),u2 = .int .i64 ((min (512*i) s:Nat):Int)/\u3 = .int .i64 ((s-min (512*i) s:Nat):Int)/\i<=nbN s/\
   OwnB wr W.heap.size u12 (b.take (min (512*i) s))/\LogAt w wr g ρ (N+i) di gl 64 n H/\Calm di/\FsP wr φi gf gl H ⟨some s,nw,lst,i,dir⟩ gc ga gm gt gn qn lv/\(∀ j,u12.ownBlock=some j->φi j=none)/\FStep W wr ρ ρ gl φ φi) (fun _ u3 _ _=>match u3 with | .int _ x=>x.toNat|_=>0)
 case atStart=>
  refine⟨0,d,φ,by simp,by simp,Nat.zero_le _,?_,HLA.out,HC.out,H0.out,fun j hj=>by simp[Value.ownBlock]at hj,FStep.refl _ _ _ _⟩;simp only[Nat.mul_zero,Nat.zero_min,List.take_zero];exact World.ownsRow_nil _ _ _ _
 case round=>
  obtain⟨i,di,φi,rfl,rfl,hi,ho,hla,hc,hf,hv,hst⟩:=hrel;have HO:=hid ho;have HLI:=hid hla;have HCI:=hid hc;have HF:=hid hf;have HV:=hid hv;have HST:=hid hst;clear ho hla hc hf hv hst;by_cases hlt:512*i<s
  ·obtain⟨m,hm⟩ : ∃ m,m=512*i:=⟨_,rfl⟩
   have hmin:min (512*i) s=m:=by omega
   rw[hmin]at HO;rw[hmin];have HM:=hid hm;have hi16:i<16:=by omega
   have i1:(0:Int)<((s-m:Nat):Int):=by omega
   have hw16:IntKind.i64.wrap (16+(i:Int))=16+(i:Int):=by rw[IntKind.wrap_i64] <;> omega
   clear hmin hm;go_wp2_with fail;refine(zgy wr gn qn _ (m:Int) (i:Int) _ (HF.out.node _ rfl).1 (zdb _ (by omega)) (by omega) (by have:=HM.out;omega) (by rw[show ((m:Int) / 512).toNat=i by have:=HM.out;omega];exact zkn _ _ (by unfold nbN;omega))).mono ?_;rintro e w1 ⟨rfl,hbx⟩;rw[show (m:Int) % 512=0 by have:=HM.out;omega];have hx1:=Ext.of hbx;have HF1:=hid (HF.out.ext hx1);have HX1:=hid hx1;have c0:=(cr 0 HF1.out.head)
   have c1:=(cr 1 HF1.out.head)
   clear hbx hx1;go_wp2_with fail;have hdis1 : ∀ j,φi j≠none->ρ j=none/\j≠gl/\w.heap.size<=j:=fun j hj=>by
    have hgl:=HLA.out.log.lt;rcases HST.out.new j hj with h|h
    ·exact HDIS.out j h
    ·exact⟨HLA.out.hm.late (Ext.refl _) h,by omega,by have:=HLA.out.hm.ex.size;omega⟩
   refine(zrk (HLI.out.keepT (HX1.out.keep _)) HCI.out (by omega) HF1.out hdis1 (by exact hi16) rfl).mono ?_;rintro e w2 ⟨kb,rfl,hkb,hrd2,hl2,d2,φ2,hla2,hc2,hf2,hn2,hkb2,hmn2,hk2⟩;have HST2:=hid (HST.out.trans (FStep.xt HX1.out (FStep.mk (RolNew.refl _ _) hn2 hk2)));have HRD2:=hid (show RdB w2 (.slice (some ⟨kb,0,none⟩) 512 512) (H (36+(i:Int))) from hrd2);have HL2:=hid (show (H (36+(i:Int))).length=512 from hl2);have HLA2:=hid hla2;have HC2:=hid hc2;have HF2:=hid (show FsP w2 φ2 gf gl H ⟨some s,nw,lst,i+1,dir⟩ gc ga gm gt gn qn lv from hf2);have HN2:=hid hn2;have HKB:=hid (show wr.heap.size<=kb/\φ2 kb=none from⟨Nat.le_trans HX1.out.size hkb,hkb2⟩);have HK2:=hid hk2;have HD1:=hid hdis1;clear hkb hrd2 hl2 hla2 hc2 hf2 hn2 hkb2 hmn2 hk2 hdis1 c0 c1;obtain⟨kk,hkk⟩ : ∃ kk,kk=min 512 (s-m):=⟨_,rfl⟩
   have hmn:(min 512 ((s-m:Nat):Int))=(kk:Int):=by omega
   have hkk1:kk<=512:=by omega
   have HKK:=hid hkk;have hup : ∀ j,u12.ownBlock=some j->ρ j=none/\j≠gl/\W.heap.size<=j/\j<wr.heap.size:=fun j hj=>by
    have h1:=World.ownsRow.lt HO.out j hj;have hgl:=HLA.out.log.lt;exact⟨HLA.out.hm.late (Ext.refl _) h1.1,by omega,h1.1,h1.2⟩
   have ho2:OwnB w2 W.heap.size u12 (b.take m):=bt (HO.out.ext HX1.out) (HK2.out.mono fun j hj _=>by
    obtain⟨q1,q2,q3,q4⟩:=hup j hj;rintro (h|h|h)
    ·exact h q1
    ·exact q2 h
    ·exact h (HV.out j hj))
   have hpr:RdB w2 (.slice (some ⟨kb,0,none⟩) kk 512) (pre b s i):=by
    have h1:=RdB.cut (by rw[HL2.out];exact HRD2.out) 0 kk (Nat.zero_le _) (by rw[HL2.out];exact hkk1);rw[List.drop_zero,Nat.sub_zero,show kk=min 512 (s-512*i) by rw[HKK.out,HM.out],zp8 (HPRE.out i (by unfold nbN;have:=HM.out;omega)) (by rw[HB.out];exact Nat.le_refl _)]at h1;rw[HKK.out,HM.out];simpa[yq,Addr.add] using h1
   have hpl:(pre b s i).length=kk:=by rw[zmw (by rw[HB.out];exact Nat.le_refl _),HKK.out,HM.out]
   have hbl:(b.take m).length=m:=by rw[List.length_take,HB.out];have:=HM.out;omega
   have HO2:=hid ho2;have HPR:=hid hpr;have HPL:=hid hpl;have HBL:=hid hbl;have HUP:=hid hup;clear hkk ho2 hpr hpl hbl hup;rw[<-HPL.out]at HPR;go_wp2_with (at_builtin;go_must (refine kw rfl _ _ _ rfl W.heap.size _ (b.take m) rfl (qg HO2.out) (.slice (some ⟨kb,0,none⟩) kk 512) (pre b s i) rfl (bz (by rw[<-HPL.out];exact HPR.out)) ?_ ?_ ?_;(rw[HBL.out,HPL.out];omega);(exact HST2.out.keep.size);intro v6 w6 k1 k2 k3 k4 k5 k6))
   have ho6:=k3 HO2.out;have hgn6:Keep (fun j=>some j≠u12.ownBlock) w2 w6:=zl k4;have hno6 : ∀ j,u12.ownBlock=some j->φ2 j=none:=fun j hj=>by
    obtain⟨q1,q2,q3,q4⟩:=HUP.out j hj;by_cases e:φ2 j=none
    ·exact e
    ·rcases HN2.out j e with h|h
     ·exact(h (HV.out j hj)).elim
     ·have:=HX1.out.size;omega
   have hst6:FStep W w6 ρ ρ gl φ φ2:=⟨HST2.out.rol,HST2.out.new,HST2.out.keep.past hgn6 fun j hj _ e=>by
    have:=(HUP.out j e.symm).2.2.1;omega⟩
   have hz26:=hgn6.size;have hf6:=HF2.out.keep (hgn6.mono fun j hj _ e=>hj (hno6 j e.symm));have hla6:=HLA2.out.keepT (hgn6.mono fun j hj _ e=>by
    obtain⟨q1,q2,q3,q4⟩:=HUP.out j e.symm;have:=HLA.out.hm.ex.size;rcases hj with (hj|hj)|hj
    ·exact hj q1
    ·omega
    ·exact q2 hj)
   have htk:b.take m++pre b s i=b.take (min (512*(i+1)) s):=by
    rw[HM.out,zr1 b s i HB.out (by have:=HM.out;omega)];congr 1
    have:=HM.out;omega
   rw[htk]at ho6;refine⟨⟨i+1,d2,φ2,?_,?_,by unfold nbN;have:=HM.out;omega,ho6,hla6,HC2.out,hf6,fun j hj=>?_,hst6⟩,?_⟩
   ·have h1:(m:Int)+(kk:Int)=((min (512*(i+1)) s:Nat):Int):=by have:=HM.out;have:=HKK.out;omega
    rw[h1]
   ·have h1:((s-m:Nat):Int)-(kk:Int)=((s-min (512*(i+1)) s:Nat):Int):=by have:=HM.out;have:=HKK.out;omega
    rw[h1]
   ·rcases k6 j hj with h|h
    ·exact hno6 j h
    ·by_cases e:φ2 j=none
     ·exact e
     ·have:=HF2.out.lt j e;omega
   ·show (((s-m:Nat):Int)-(kk:Int)).toNat<(((s-m:Nat):Int)).toNat;have:=HKK.out;omega
  ·have hie:i=nbN s:=by unfold nbN at hi ⊢;omega
   have hm:min (512*i) s=s:=by omega
   rw[hm]at HO ⊢;have i1 : ¬ (0:Int)<((s-s:Nat):Int):=by omega
   go_wp2_with fail;refine bodyPost_ret (v:=.tuple #[u12,.int .i64 0]) (by simp[results,Tryz.results66,go_sem]) rfl ?_;rw[hie]at HF HLI;refine⟨u12,rfl,?_,di,?_,HCI.out,φi,HF.out,fun j hj=>?_,HV.out,HST.out⟩
   ·have:=HO.out;rw[<-HB.out,List.take_length]at this;exact this
   ·exact { HLI.out with hm:=HLI.out.hm.mono (by omega) }
   ·have hgl:=HLA.out.log.lt;rcases HST.out.new j hj with h|h
    ·exact HDIS.out j h
    ·exact⟨HLA.out.hm.late (Ext.refl _) h,by omega,by have:=HLA.out.hm.ex.size;omega⟩
end
end
abbrev Fld:=ByteArray × (Bool × (Int × ByteArray))
abbrev Ev:=ByteArray × (Int × List Fld)
abbrev Bat:=ByteArray × (ByteArray × (Int × List Ev))
def bl (s:ByteArray):List UInt8:=s.data.toList
theorem ze1 (s:ByteArray):(bl s).length=s.size:=by unfold bl;rw[Array.length_toList];rfl
theorem zxz (s:ByteArray):(⟨(bl s).toArray⟩:ByteArray)=s:=by simp[bl]
def yn (s:ByteArray):Bool:=decide (1<=s.size/\s.size<=60)
def zal (f:Fld):Bool:=yn f.1 && (if f.2.1 then decide (f.2.2.2.size<=200) && decide (f.2.2.1=0) else decide (f.2.2.2.size=0))
def zqz (fs:List Fld):Bool:=decide ((fs.map (·.1)).Nodup)
def evOk (e:Ev):Bool:=yn e.1 && decide (0<=e.2.1/\e.2.1<=1073741824) && decide (e.2.2.length<=16) && e.2.2.all zal && zqz e.2.2
def jc (e:Ev):Nat:=if evOk e then 0 else 13
def xe (x:Bat):Bool:=yn x.1 && decide (x.2.1.size<=60) && decide (0<=x.2.2.1/\x.2.2.1<=1099511627776) && decide (1<=x.2.2.2.length/\x.2.2.2.length<=16)
def xh (f:Fld):List UInt8:=putT (bl f.1)++(if f.2.1 then 1 :: putT (bl f.2.2.2) else 0 :: putI f.2.2.1)
def vq (e:Ev):List UInt8:=putT (bl e.1)++(putU e.2.1.toNat++(putU e.2.2.length++e.2.2.flatMap xh))
def vx (x:Bat):List UInt8:=putT (bl x.1)++(putT (bl x.2.1)++(putU x.2.2.1.toNat++putU x.2.2.2.length))
def putBat (x:Bat):List UInt8:=vx x++x.2.2.2.flatMap vq
def putB (x:Bat):List UInt8 × Nat:=
 if xe x=false then ([],11)
 else if x.2.2.2.all evOk=false then ([],13)
 else if 2000<(putBat x).length then ([],12)
 else (putBat x,0)
theorem kz (s:List UInt8):(putT s).length<=s.length+10:=by
 have:=zq s.length;unfold putT;rw[List.length_append];omega
theorem zie (f:Fld) (h:zal f=true):(xh f).length<=281:=by
 obtain⟨n,t,i,s⟩:=f;unfold zal yn at h;dsimp only at h;have h1:=kz (bl n);have h2:=kz (bl s);have h3:=zq (zig i);rw[ze1]at h1 h2;unfold xh;cases t
 ·simp at h;simp only[List.length_append,Bool.false_eq_true,if_false,List.length_cons,putI];omega
 ·simp at h;simp only[List.length_append,if_true,List.length_cons];omega
theorem zhw {α:Type} (f:α->List UInt8) (m:Nat) (l:List α) (h : ∀ x∈l,(f x).length<=m):(l.flatMap f).length<=m*l.length:=by
 induction l with
 | nil=>simp
 | cons x l ih=>
  have h0:=h x (by simp);have:=ih fun y hy=>h y (by simp[hy]);simp only[List.flatMap_cons,List.length_append,List.length_cons,Nat.mul_add,Nat.mul_one];omega
theorem bi {e:Ev} (h:evOk e=true):e.2.2.length<=16/\∀ f∈e.2.2,zal f=true:=by
 unfold evOk at h;simp only[Bool.and_eq_true,decide_eq_true_eq,List.all_eq_true]at h;exact⟨h.1.1.2,h.1.2⟩
theorem zex {e:Ev} (h:evOk e=true):(1<=e.1.size/\e.1.size<=60)/\0<=e.2.1/\e.2.1<=1073741824:=by
 unfold evOk yn at h;simp only[Bool.and_eq_true,decide_eq_true_eq]at h;exact⟨h.1.1.1.1,h.1.1.1.2⟩
theorem zsi (e:Ev) (h:evOk e=true):(vq e).length<=4586:=by
 obtain⟨h1,h2⟩:=bi h;obtain⟨h3,h4⟩:=zex h;have f1:=zhw xh 281 e.2.2 fun f hf=>zie f (h2 f hf);have f2:=kz (bl e.1);rw[ze1]at f2;have f3:=zq e.2.1.toNat;have f4:=zq e.2.2.length;unfold vq;simp only[List.length_append];have:281*e.2.2.length<=281*16:=Nat.mul_le_mul_left _ h1;omega
theorem zai {x:Bat} (h:xe x=true):(1<=x.1.size/\x.1.size<=60)/\x.2.1.size<=60/\(0<=x.2.2.1/\x.2.2.1<=1099511627776)/\1<=x.2.2.2.length/\x.2.2.2.length<=16:=by
 unfold xe yn at h;simp only[Bool.and_eq_true,decide_eq_true_eq]at h;exact⟨h.1.1.1,h.1.1.2,h.1.2,h.2⟩
theorem zn3 (x:Bat) (h:xe x=true):(vx x).length<=160:=by
 obtain⟨h1,h2,h3,h4⟩:=zai h;have f1:=kz (bl x.1);have f2:=kz (bl x.2.1);rw[ze1]at f1 f2;have f3:=zq x.2.2.1.toNat;have f4:=zq x.2.2.2.length;unfold vx;simp only[List.length_append];omega
abbrev stSt:=List UInt8 × Bool
def tk (st:stSt) (n e:Nat):stSt:=if e=0 then (st.1.drop n,st.2) else ([],true)
def y8 (most:Int) (st:stSt):ByteArray × stSt:=(⟨(zyg st.1 most).1.toArray⟩,tk st (zyg st.1 most).2.1 (zyg st.1 most).2.2)
def numE (most:Nat) (l:List UInt8):Nat:=if most<(zi l).1 then 12 else (zi l).2.2
def rNum (most:Nat) (st:stSt):Nat × stSt:=(if (tk st (zi st.1).2.1 (numE most st.1)).2 then 0 else (zi st.1).1,tk st (zi st.1).2.1 (numE most st.1))
def rFld (st:stSt):Fld × stSt:=
 let t:=y8 60 st
 match t.2.1 with
 | []=>((t.1,false,0,⟨#[]⟩),(t.2.1,true))
 | c :: r=>
  if c=0 then ((t.1,false,zbl (zi r).1,⟨#[]⟩),tk t.2 (1+(zi r).2.1) (zi r).2.2)
  else if c=1 then ((t.1,true,0,(y8 200 (r,t.2.2)).1),(y8 200 (r,t.2.2)).2)
  else ((t.1,false,0,⟨#[]⟩),(t.2.1,true))
def zac:Nat->stSt->List Fld × stSt
 | 0,st=>([],st)
 | n+1,st=>if st.2 then ([],st) else ((rFld st).1 :: (zac n (rFld st).2).1,(zac n (rFld st).2).2)
def rEv (st:stSt):Ev × stSt:=
 let t:=y8 60 st
 let v:=rNum 1073741824 t.2
 let k:=rNum 16 v.2
 let f:=zac k.1 k.2
 ((t.1,(v.1:Int),f.1),f.2)
def rEvs:Nat->stSt->List Ev × stSt
 | 0,st=>([],st)
 | n+1,st=>if st.2 then ([],st) else ((rEv st).1 :: (rEvs n (rEv st).2).1,(rEvs n (rEv st).2).2)
def rBat (l:List UInt8):Bat × stSt:=
 let s:=y8 60 (l,false)
 let k:=y8 60 s.2
 let f:=rNum 1099511627776 k.2
 let n:=rNum 16 f.2
 let e:=rEvs n.1 n.2
 ((s.1,k.1,(f.1:Int),e.1),e.2)
theorem zh4 (s:ByteArray) (most:Int) (hs:(s.size:Int)<=most) (h2:s.size<=18446744073709551615) (r:List UInt8):zyg (putT (bl s)++r) most=(bl s,(putT (bl s)).length,0):=by
 have hl:=ze1 s;have hu:=qi (bl s).length (by omega) (bl s++r);unfold zyg putT;rw[List.append_assoc,hu];simp only[ne_eq,not_true_eq_false,if_false];rw[if_neg (by omega),if_neg (by simp),List.drop_left,List.take_left,List.length_append]
theorem bq (s:ByteArray) (most:Int) (hs:(s.size:Int)<=most) (h2:s.size<=18446744073709551615) (r:List UInt8) (b:Bool):y8 most (putT (bl s)++r,b)=(s,(r,b)):=by
 unfold y8 tk;dsimp only;rw[zh4 s most hs h2 r];simp only[if_pos,List.drop_left];rw[zxz]
theorem zdp (n most:Nat) (hn:n<=most) (hm:n<=18446744073709551615) (r:List UInt8):rNum most (putU n++r,false)=(n,(r,false)):=by
 have h1:numE most (putU n++r)=0:=by
  unfold numE;rw[qi n hm r];dsimp only;rw[if_neg (by omega)]
 unfold rNum;dsimp only;rw[h1,qi n hm r];simp[tk]
theorem znj (n:Int):zbl (zig n)=n:=by
 unfold zbl zig;by_cases h:0<=n
 ·rw[if_pos h,if_pos (by omega)];omega
 ·rw[if_neg h,if_neg (by omega)];omega
theorem zje {s:ByteArray} (h:s.size=0):s=⟨#[]⟩:=by
 apply ByteArray.ext;exact Array.eq_empty_of_size_eq_zero h
def fldI (f:Fld):Prop:= -9223372036854775808<=f.2.2.1/\f.2.2.1<=9223372036854775807
theorem zsc (f:Fld) (h:zal f=true) (hi:fldI f) (r:List UInt8):rFld (xh f++r,false)=(f,(r,false)):=by
 obtain⟨n,t,i,s⟩:=f;unfold zal yn at h;dsimp only at h;unfold fldI at hi;dsimp only at hi;unfold rFld xh;dsimp only;cases t
 ·simp at h;rw[List.append_assoc,bq n 60 (by omega) (by omega)];obtain rfl:s=⟨#[]⟩:=h.2;simp only[Bool.false_eq_true,if_false,List.cons_append,if_true];have hu:=qi (zig i) (zpb i hi.1 hi.2) r;rw[show putI i++r=putU (zig i)++r from rfl,hu];dsimp only;rw[znj];unfold tk;rw[if_pos rfl];dsimp only;rw[Nat.add_comm,List.drop_succ_cons,List.drop_left]
 ·simp at h;rw[List.append_assoc,bq n 60 (by omega) (by omega)];obtain⟨h1,h2,h3⟩:=h;subst h3;simp only[if_true,List.cons_append];rw[if_neg (by decide),bq s 200 (by omega) (by omega)]
theorem zp3 (fs:List Fld) (h : ∀ f∈fs,zal f=true) (hi : ∀ f∈fs,fldI f) (r:List UInt8):zac fs.length (fs.flatMap xh++r,false)=(fs,(r,false)):=by
 induction fs with
 | nil=>rfl
 | cons f fs ih=>
  rw[List.length_cons,List.flatMap_cons,List.append_assoc];unfold zac;rw[zsc f (h f (by simp)) (hi f (by simp)),if_neg (by simp)];dsimp only;rw[ih (fun g hg=>h g (by simp[hg])) (fun g hg=>hi g (by simp[hg]))]
def evI (e:Ev):Prop:=∀ f∈e.2.2,fldI f
theorem zu9 (e:Ev) (h:evOk e=true) (hi:evI e) (r:List UInt8):rEv (vq e++r,false)=(e,(r,false)):=by
 obtain⟨h1,h2⟩:=bi h;obtain⟨h3,h4⟩:=zex h;obtain⟨t,v,fs⟩:=e;dsimp only at h1 h2 h3 h4;unfold rEv vq;simp only[List.append_assoc];rw[bq t 60 (by omega) (by omega)];dsimp only;rw[zdp v.toNat _ (by omega) (by omega)];dsimp only;rw[zdp fs.length 16 h1 (by omega)];dsimp only;rw[zp3 fs h2 hi];dsimp only;rw[Int.toNat_of_nonneg h4.1]
theorem zse (es:List Ev) (h : ∀ e∈es,evOk e=true) (hi : ∀ e∈es,evI e) (r:List UInt8):rEvs es.length (es.flatMap vq++r,false)=(es,(r,false)):=by
 induction es with
 | nil=>rfl
 | cons f fs ih=>
  rw[List.length_cons,List.flatMap_cons,List.append_assoc];unfold rEvs;rw[zu9 f (h f (by simp)) (hi f (by simp)),if_neg (by simp)];dsimp only;rw[ih (fun g hg=>h g (by simp[hg])) (fun g hg=>hi g (by simp[hg]))]
def batI (x:Bat):Prop:=∀ e∈x.2.2.2,evI e
theorem zsh (x:Bat) (h:xe x=true) (h':x.2.2.2.all evOk=true) (hi:batI x):rBat (putBat x)=(x,([],false)):=by
 obtain⟨h1,h2,h3,h4⟩:=zai h;rw[List.all_eq_true]at h';obtain⟨s,k,f,es⟩:=x;dsimp only at h1 h2 h3 h4 h';have he:=zse es h' hi [];rw[List.append_nil]at he;unfold rBat putBat vx;simp only[List.append_assoc];rw[bq s 60 (by omega) (by omega)];dsimp only;rw[bq k 60 (by omega) (by omega)];dsimp only;rw[zdp f.toNat _ (by omega) (by omega)];dsimp only;rw[zdp es.length 16 (by omega) (by omega)];dsimp only;rw[he];dsimp only;rw[Int.toNat_of_nonneg h3.1]
theorem zvb {x:Bat}{b:List UInt8} (h:putB x=(b,0)):xe x=true/\x.2.2.2.all evOk=true/\b=putBat x/\b.length<=2000:=by
 unfold putB at h;by_cases h1:xe x=false
 ·rw[if_pos h1]at h;simp at h
 rw[if_neg h1]at h;by_cases h2:x.2.2.2.all evOk=false
 ·rw[if_pos h2]at h;simp at h
 rw[if_neg h2]at h;by_cases h3:2000<(putBat x).length
 ·rw[if_pos h3]at h;simp at h
 rw[if_neg h3]at h;simp only[Prod.mk.injEq,and_true]at h;exact⟨by simpa using h1,by simpa using h2,h.symm,by rw[<-h];omega⟩
def batF (b:List UInt8):Bat × Nat:=if (rBat b).2.2=true\/putB (rBat b).1≠(b,0) then ((⟨#[]⟩,⟨#[]⟩,0,[]),11) else ((rBat b).1,0)
theorem zti (x:Bat) (b:List UInt8) (h:putB x=(b,0)) (hi:batI x):batF b=(x,0):=by
 obtain⟨h1,h2,rfl,h4⟩:=zvb h;unfold batF;rw[zsh x h1 h2 hi];rw[if_neg (by simp[h])]
def vu (fs:List Fld) (i:Nat) (n:ByteArray) (m:Nat):Bool:=(List.range m).all fun j=>match fs[j]? with|some g=>decide (n≠g.1)|none=>true
def okTo (ok:Bool) (fs:List Fld):Nat->Bool
 | 0=>ok
 | i+1=>okTo ok fs i && (match fs[i]? with|some f=>vu fs i f.1 (min i 16) && zal f|none=>true)
theorem zg5 (fs:List Fld) (i:Nat) (n:ByteArray) (m:Nat) (h:m<fs.length):vu fs i n (m+1)=(vu fs i n m && decide (n≠fs[m].1)):=by
 unfold vu;rw[List.range_succ,List.all_append];simp[h]
theorem zim (ok:Bool) (fs:List Fld) (i:Nat) (h:i<fs.length):okTo ok fs (i+1)=(okTo ok fs i && (vu fs i fs[i].1 (min i 16) && zal fs[i])):=by
 simp[okTo,h]
theorem zsu (ok:Bool) (fs:List Fld) : ∀ i,i<=fs.length->(okTo ok fs i=true↔ok=true/\∀ k (hk:k<i) (hk':k<fs.length),vu fs k fs[k].1 (min k 16)=true/\zal fs[k]=true):=by
 intro i;induction i with
 | zero=>intro _;simp[okTo]
 | succ i ih=>
  intro h;rw[zim ok fs i (by omega),Bool.and_eq_true,ih (by omega),Bool.and_eq_true];constructor
  ·rintro ⟨⟨h1,h2⟩,h3⟩;refine⟨h1,fun k hk hk'=>?_⟩;by_cases e:k=i
   ·subst e;exact h3
   ·exact h2 k (by omega) hk'
  ·rintro ⟨h1,h2⟩;exact⟨⟨h1,fun k hk hk'=>h2 k (by omega) hk'⟩,h2 i (by omega) (by omega)⟩
theorem ziy (fs:List Fld) (i:Nat) (n:ByteArray) (m:Nat) (hm:m<=fs.length):vu fs i n m=true↔∀ j (hj:j<m) (hj':j<fs.length),n≠fs[j].1:=by
 unfold vu;rw[List.all_eq_true];constructor
 ·intro h j hj hj';have:=h j (List.mem_range.2 hj);simpa[hj'] using this
 ·intro h j hj;have hj:=List.mem_range.1 hj;have hj':j<fs.length:=by omega
  simpa[hj'] using h j hj hj'
theorem zin (fs:List Fld):(fs.map (·.1)).Nodup↔∀ i j (hi:i<fs.length) (hj:j<fs.length),j<i->fs[i].1≠fs[j].1:=by
 unfold List.Nodup;rw[List.pairwise_iff_getElem];constructor
 ·intro h i j hi hj hij e;have:=h j i (by simpa using hj) (by simpa using hi) hij;simp only[List.getElem_map]at this;exact this e.symm
 ·intro h i j hi hj hij;simp only[List.length_map]at hi hj;simp only[List.getElem_map];exact fun e=>h j i hj hi hij e.symm
theorem zqd (e:Ev):okTo (yn e.1 && (decide (0<=e.2.1) && (decide (e.2.1<=1073741824) && decide (e.2.2.length<=16)))) e.2.2 e.2.2.length=evOk e:=by
 rw[Bool.eq_iff_iff,zsu _ _ _ (Nat.le_refl _)];unfold evOk zqz;simp only[Bool.and_eq_true,decide_eq_true_eq,List.all_eq_true];constructor
 ·rintro ⟨⟨h1,h2,h3,h4⟩,h5⟩;refine⟨⟨⟨⟨h1,h2,h3⟩,h4⟩,fun f hf=>?_⟩,?_⟩
  ·obtain⟨i,hi,rfl⟩:=List.getElem_of_mem hf;exact(h5 i hi hi).2
  ·rw[zin];intro i j hi hj hij;have:=(ziy _ _ _ _ (by omega)).1 (h5 i hi hi).1 j (by omega) hj;exact this
 ·rintro ⟨⟨⟨⟨h1,h2,h3⟩,h4⟩,h5⟩,h6⟩;rw[zin]at h6;refine⟨⟨h1,h2,h3,h4⟩,fun k hk hk'=>⟨(ziy _ _ _ _ (by omega)).2 fun j hj hj'=>h6 k j hk' hj' (by omega),h5 _ (List.getElem_mem hk')⟩⟩
end Go.Proofs.YtnadlnmclameiaaGreatDoor
