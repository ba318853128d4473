/- part 13 -/
import Derived.Test.YtnadlnmclameiaaGreatDoorTS12
set_option maxRecDepth 100000
set_option maxHeartbeats 8000000
set_option linter.all false
namespace Go.Proofs.YtnadlnmclameiaaGreatDoor
section
open Go.RowKit Go.Maps
def magicB:List UInt8:=[99,97,114,116,117,108,97,114,121]
def yg (n:Nat):List UInt8:=magicB++putU n
theorem ziw (n:Nat):(yg n).length<=19:=by
 unfold yg;rw[List.length_append];have:=(zq n).2;show 9+_<=19;omega
theorem zcx (w:World) (v1 v2:Value) (a b:List UInt8) (h1:RdB w v1 a) (h2:RdB w v2 b) :
  Calls Tryz.prog 73 #[v1,v2] w fun e w'=>e = .returned (.bool (decide (a=b)))/\w=w':=by
 obtain⟨va,vc,rfl⟩:=h1.slice';obtain⟨vb,vd,rfl⟩:=h2.slice';have s1:=zb6 h1;have s2:=zb6 h2;clear h1 h2;by_cases h:a=b
 ·subst h;go_enter Tryz.func73,Tryz.ntmps73;go_wp2_with fail;go_ret;exact⟨by simp,rfl⟩
 ·go_enter Tryz.func73,Tryz.ntmps73;go_wp2_with fail;go_ret;exact⟨by simp[h],rfl⟩
theorem zp2 {w:World}{ad:Option Addr}{cap:Nat}{l:List UInt8} (h:RdB w (.slice ad l.length cap) l) (k:Nat) (hk:k<=l.length):RdB w (.slice ad k cap) (l.take k):=by
 obtain⟨a0,cap0,e,g1,g2,g3,g4⟩:=h;simp only[Value.slice.injEq,true_and]at e;obtain⟨rfl,rfl⟩:=e;have hl:(l.take k).length=k:=by rw[List.length_take];omega
 refine⟨_,_,by rw[hl],by omega,g2,by rw[zd4,hl,Nat.mul_one],fun hn=>?_⟩;obtain⟨g,o,rfl,hg,hc⟩:=g4 (by omega);refine⟨g,o,rfl,hg,fun j hj=>?_⟩;rw[hc j (by omega),<-zd3,List.getElem?_take,if_pos (by omega)]
theorem zjg (w:World) (v1 v2:Value) (a b:List UInt8) (h1:RdB w v1 a) (h2:RdB w v2 b) (hl:a.length<=140737488355328) :
  Calls Tryz.prog 151 #[v1,v2] w fun e w'=>e = .returned (.bool (decide (b.length<=a.length/\a.take b.length=b)))/\w=w':=by
 obtain⟨va,vc,rfl⟩:=h1.slice';obtain⟨vb,vd,rfl⟩:=h2.slice';obtain⟨_,_,e,hc1,hc2,-⟩:=id h1;simp only[Value.slice.injEq]at e;obtain⟨rfl,-,rfl⟩:=e;have hc3:vc<=9223372036854775807:=by unfold maxLen at hc2;omega
 by_cases h:b.length<=a.length
 ·have h':(b.length:Int)<=(a.length:Int):=by omega
  have hcut:=h1.cut 0 b.length (Nat.zero_le _) h;have hcut:RdB w (.slice va b.length vc) (a.take b.length):=by
   have:=zp2 h1 b.length h;exact this
  have HC:=hid hcut;have H2:=hid h2;clear h1 h2 hcut hc2;go_enter Tryz.func151,Tryz.ntmps151;go_wp2_with fail;refine(zcx w _ _ _ _ HC.out H2.out).mono ?_;rintro e w' ⟨rfl,rfl⟩;by_cases hd:a.take b.length=b
  ·rw[show decide (a.take b.length=b)=true by simp[hd]];go_wp2_with fail;go_ret;exact⟨by simp[h,hd],rfl⟩
  ·rw[show decide (a.take b.length=b)=false by simp[hd]];go_wp2_with fail;go_ret;exact⟨by simp[h,hd],rfl⟩
 ·have h' : ¬ (b.length:Int)<=(a.length:Int):=by omega
  clear h1 h2 hc2;go_enter Tryz.func151,Tryz.ntmps151;go_wp2_with fail;go_ret;exact⟨by simp[h],rfl⟩
open Go.RowKit Go.Maps
theorem cut_own {ad:Option Addr}{cap l n m n' m':Nat}:(Value.slice (yq ad cap l 1) n m).ownBlock=(Value.slice ad n' m').ownBlock:=cutAt_block
theorem jq (w:World) (va:Option Addr) (vc:Nat) (v2:Value) (a b:List UInt8) (h1:RdB w (.slice va a.length vc) a) (h2:RdB w v2 b) (hl:a.length<=140737488355328) :
  Calls Tryz.prog 102 #[.slice va a.length vc,v2] w fun e w'=>w=w'/\
   if b.length<=a.length/\a.take b.length=b then e = .returned (.tuple #[.slice (yq va vc b.length 1) (a.length-b.length) (vc-b.length),.bool true])/\RdB w (.slice (yq va vc b.length 1) (a.length-b.length) (vc-b.length)) (a.drop b.length)
   else e = .returned (.tuple #[.slice va a.length vc,.bool false]):=by
 obtain⟨vb,vd,rfl⟩:=h2.slice';have H1:=hid h1;have H2:=hid h2;clear h1 h2;go_enter Tryz.func102,Tryz.ntmps102;go_wp2_with fail;refine(zjg w _ _ a b H1.out H2.out hl).mono ?_;rintro e w' ⟨rfl,rfl⟩;by_cases hd:b.length<=a.length/\a.take b.length=b
 ·have hle:=hd.1;have HD:=hid hd;rw[show decide (b.length<=a.length/\a.take b.length=b)=true by simp only[decide_eq_true_eq];exact hd];clear hd;go_wp2_with ((with_reducible refine yo ?_);go_must (refine yf rfl rfl Tryz.underlying33 qe rfl rfl b.length rfl ?_ ?_;omega))
  refine bodyPost_ret (v:=.tuple #[.slice (yq va vc b.length 1) (a.length-b.length) (vc-b.length),.bool true]) (by simp[results,Tryz.results102,go_sem]) rfl ?_;refine⟨rfl,?_⟩;exact⟨rfl,H1.out.drop b.length hle⟩
 ·have HD:=hid hd;rw[show decide (b.length<=a.length/\a.take b.length=b)=false by simp only[decide_eq_false_iff_not];exact hd];clear hd;go_wp2_with fail;refine bodyPost_ret (v:=.tuple #[.slice va a.length vc,.bool false]) (by simp[results,Tryz.results102,go_sem]) rfl ?_;exact⟨rfl,rfl⟩
theorem zik (w:World):OwnB (w.alloc (.cells #[] 5)) w.heap.size (.slice (some ⟨w.heap.size,0,none⟩) 0 0) []:=World.ownsRow_made w #[] 0 (Nat.le_refl _) (by simp[maxLen]) rfl
theorem zsm (w:World) (base:Nat):OwnB w base (.slice none 0 0) []:=⟨rfl,.inl ⟨rfl,rfl⟩⟩
theorem zmj (w:World) (v:Value) (l:List UInt8) (h:RdB w v l) (hl:l.length<=1000000) :
  Calls Tryz.prog 83 #[v] w (NewB l w):=by
 have hnil:=fun w=>Lib.run_eql_slice_nil (P:=Tryz.prog) w;obtain⟨a,cap,rfl⟩:=h.slice';have H:=hid h;cases a with
 | none=>
  have h0:l=[]:=by
   obtain⟨a0,c0,e,_,_,_,h4⟩:=h;cases l with
   | nil=>rfl
   | cons x l=>
    obtain⟨g,o,e2,_⟩:=h4 (by simp);simp only[Value.slice.injEq]at e;rw[e2]at e;exact absurd e.1 (by simp)
  subst h0;obtain⟨a0,c0,e,_,_,_,h4⟩:=h;clear h4;go_enter Tryz.func83,Tryz.ntmps83;go_wp2_with fail;go_ret;exact⟨_,rfl,zsm _ _,Below.refl _ _⟩
 | some a=>
  have hx:Ext w (w.alloc (.cells #[] 5)):=(Ext.refl _).alloc _;have HA:AppB (w.alloc (.cells #[] 5)) w.heap.size (.slice (some ⟨w.heap.size,0,none⟩) 0 0) []:=qg (zik w);clear h;go_enter Tryz.func83,Tryz.ntmps83;go_wp2_with (at_builtin;go_must (refine kw rfl _ _ _ rfl w.heap.size _ [] rfl HA _ l rfl (bz (H.out.ext hx)) ?_ ?_ ?_;(simp only[List.length_nil];omega);simp;intro v' w' k1 k2 k3 k4 k5 k6))
  go_ret;rw[List.nil_append]at k3;exact⟨_,rfl,k3 (zik w),((Below.refl w.heap.size w).alloc (Nat.le_refl _) _).trans k5⟩
theorem kcM (W:World):(convert 33 33 (.slice (some ⟨W.heap.size,0,none⟩) 9 9)).run Tryz.prog (W.alloc (.cells #[.int .u8 99,.int .u8 97,.int .u8 114,.int .u8 116,.int .u8 117,.int .u8 108,.int .u8 97,.int .u8 114,.int .u8 121] 5)) = .ok (.slice (some ⟨W.heap.size,0,none⟩) 9 9) (W.alloc (.cells #[.int .u8 99,.int .u8 97,.int .u8 114,.int .u8 116,.int .u8 117,.int .u8 108,.int .u8 97,.int .u8 114,.int .u8 121] 5 (9,10))):=zqj W W.heap.size _ 9 9 rfl
theorem zas (W:World):RdB (W.alloc (.cells #[.int .u8 99,.int .u8 97,.int .u8 114,.int .u8 116,.int .u8 117,.int .u8 108,.int .u8 97,.int .u8 114,.int .u8 121] 5 (9,10))) (.slice (some ⟨W.heap.size,0,none⟩) 9 9) magicB:=
 zaq (b:=magicB) (heap_alloc_new _ _) 9 rfl (by omega)
theorem zkx (w:World) (n:Nat) (hn:n<=18446744073709551615):Calls Tryz.prog 125 #[.int .u64 n] w (NewB (yg n) w):=by
 have hkc:=kcM w;go_enter Tryz.func125,Tryz.ntmps125;go_wp2_with fail;refine(yi _ _ magicB n (zas w) hn (by simp[magicB])).mono ?_;rintro e w1 ⟨v1,rfl,ho1,hb1⟩;have hx:Ext w (w.alloc (.cells #[.int .u8 99,.int .u8 97,.int .u8 114,.int .u8 116,.int .u8 117,.int .u8 108,.int .u8 97,.int .u8 114,.int .u8 121] 5 (9,10))):=(Ext.refl _).alloc _;go_wp2_with fail;go_ret;exact⟨v1,rfl,ho1.low hx.size,Below.trans hx (hb1.mono hx.size)⟩
open Go.RowKit Go.Maps
abbrev JW:=Int × List UInt8
def rWr:Rdr JW:=ke rI rBs
theorem zj9:rWr.size=2:=rfl
theorem RdS.atWr {w:World}{S:Nat->Prop}{v:Value}{xs:List JW} (h:RdS rWr w S v xs) (i:Nat) (hi:i<xs.length) :
  ∃ g o cap u,v = .slice (some ⟨g,o,none⟩) xs.length cap/\g<w.heap.size/\S g/\w.cell? ⟨g,o+i*2,none⟩=some (.int .i64 xs[i].1)/\w.cell? ⟨g,o+i*2+1,none⟩=some u
   /\ (-9223372036854775808<=xs[i].1/\xs[i].1<=9223372036854775807)/\RdB w u xs[i].2/\(0<xs[i].2.length->∀ k,u.ownBlock=some k->S k):=by
 obtain⟨g,o,cap,cs,rfl,hg,hS,_,hc,hr⟩:=h.at i hi;obtain⟨c1,c2,rfl,⟨rfl,h1⟩,u,rfl,h2,h3⟩:=hr;refine⟨g,o,cap,u,rfl,hg,hS,?_,?_,h1,h2,h3⟩
 ·have:=hc 0 _ rfl;simpa[zj9] using this
 ·have:=hc 1 _ rfl;simpa[zj9,Nat.add_assoc] using this
def jb (n:Nat) (ws:List JW):List UInt8:=magicB++putU n++putU ws.length++ws.flatMap fun p=>putU p.1.toNat
def ja (ws:List JW):List UInt8:=le32 0++ws.flatMap fun p=>p.2
def jd (n:Nat) (ws:List JW):List UInt8:=jb n ws++le32 (sumF (ja ws++jb n ws))
def qr (n:Nat) (ws:List JW):List UInt8:=putF 106 (jd n ws)++List.replicate (512-(putF 106 (jd n ws)).length) 0
def WsOk (ws:List JW):Prop:=ws.length<=16/\∀ p∈ws,0<=p.1/\p.1<=1000000/\p.2.length=512
theorem zg8 (ws:List JW):(ws.flatMap fun p=>putU p.1.toNat).length<=10*ws.length:=by
 induction ws with
 | nil=>simp
 | cons a l ih=>
  rw[List.flatMap_cons,List.length_append,List.length_cons];have:=(zq a.1.toNat).2;omega
theorem zqk (n:Nat) (ws:List JW) (h:ws.length<=16):(jb n ws).length<=189:=by
 unfold jb;rw[List.length_append,List.length_append,List.length_append];have h1:=(zq n).2;have h2:=(zq ws.length).2;have h3:=zg8 ws;have h4:magicB.length=9:=rfl;omega
theorem zkp (n:Nat) (ws:List JW) (h:ws.length<=16):(jd n ws).length<=193:=by
 unfold jd;rw[List.length_append,zc3];have:=zqk n ws h;omega
theorem zcs (n:Nat) (ws:List JW) (h:ws.length<=16):(putF 106 (jd n ws)).length<=512/\(qr n ws).length=512:=by
 have h1:=zkp n ws h;have h2:=(zq (jd n ws).length).2;have h3:(putF 106 (jd n ws)).length<=512:=by rw[ko];omega
 refine⟨h3,?_⟩;unfold qr;rw[List.length_append,List.length_replicate];omega
theorem zte (ws:List JW) (h:WsOk ws):(ws.flatMap fun p=>p.2).length=512*ws.length:=by
 obtain⟨-,h⟩:=h;induction ws with
 | nil=>rfl
 | cons a l ih=>
  rw[List.flatMap_cons,List.length_append,List.length_cons,ih fun p hp=>h p (by simp[hp]),(h a (by simp)).2.2];omega
theorem WsOk.take {ws:List JW} (h:WsOk ws) (i:Nat):WsOk (ws.take i):=⟨by rw[List.length_take];have:=h.1;omega,fun p hp=>h.2 p (List.mem_of_mem_take hp)⟩
theorem zoz (w:World) (dv:Value) (data:List UInt8) (hd:RdB w dv data) (hlong:data.length<=2000) :
  Calls Tryz.prog 49 #[.slice none 0 0,.agg #[.int .u8 106,dv]] w fun e w'=>∃ v',e = .returned (.tuple #[v',.int .i64 0])/\OwnB w' w.heap.size v' (putF 106 data)/\Below w.heap.size w w':=by
 have h:=zck w (.slice none 0 0) [] 106 dv data (RdB.nil _) hd hlong (by simp);rw[show (((106:UInt8).toNat:Nat):Int)=106 from rfl,List.nil_append]at h;exact h
theorem bt {w w':World}{base:Nat}{v:Value}{l:List UInt8} (h:OwnB w base v l) (hk:Keep (fun k=>v.ownBlock=some k) w w'):OwnB w' base v l:=by
 obtain⟨h1,h2⟩:=h;refine⟨h1,?_⟩;rcases h2 with h|⟨g,cap,cur,e,hb,hg,rest⟩
 ·exact .inl h
 ·exact .inr ⟨g,cap,cur,e,hb,(hk.block g (by rw[e];rfl) (blt hg)).trans hg,rest⟩
theorem zkt (w:World) (n:Nat) (hn:n<=18446744073709551615) (S:Nat->Prop) (v:Value) (ws:List JW) (hv:RdS rWr w S v ws) (hok:WsOk ws) :
  Calls Tryz.prog 130 #[.int .u64 n,v] w (NewB (qr n ws) w):=by
 obtain⟨va,vc,rfl,-⟩:=hv.slice;have HV:=hid hv;have HOK:=hid hok;have hl16:=hok.1;have hkc:=kcM w;have hwl:IntKind.u64.wrap (ws.length:Int)=(ws.length:Int):=by
  unfold IntKind.wrap;simp[IntKind.min,IntKind.max,IntKind.bits,IntKind.signed];omega
 clear hv hok;go_enter Tryz.func130,Tryz.ntmps130;go_wp2_with fail;have hx0:Ext w (w.alloc (.cells #[.int .u8 99,.int .u8 97,.int .u8 114,.int .u8 116,.int .u8 117,.int .u8 108,.int .u8 97,.int .u8 114,.int .u8 121] 5 (9,10))):=(Ext.refl _).alloc _;refine(yi _ _ magicB n (zas w) hn (by simp[magicB])).mono ?_;rintro e w1 ⟨v1,rfl,ho1,hb1⟩;have hx1:Ext w w1:=hx0.trans hb1;obtain⟨D1,hD1⟩ : ∃ D1,D1=magicB++putU n:=⟨_,rfl⟩
 rw[<-hD1]at ho1;have HD1:=hid hD1;have hD1l:D1.length<=19:=by rw[hD1,List.length_append];have:=(zq n).2;show 9+_<=19;omega
 clear hD1;obtain⟨a1,c1,rfl⟩:=ho1.slice;have HO1:=hid ho1;have HX1:=hid hx1;have hz1:=hx1.size;clear hkc hb1 ho1 hx0 hx1;go_wp2_with fail;refine(yi _ _ _ ws.length (zk HO1.out) (by omega) (by omega)).mono ?_;rintro e w2 ⟨v2,rfl,ho2,hb2⟩;have hx2:Ext w w2:=HX1.out.trans hb2;obtain⟨b0,hb0⟩ : ∃ b0,b0=D1++putU ws.length:=⟨_,rfl⟩
 rw[<-hb0]at ho2;have hb0':b0=magicB++putU n++putU ws.length:=by rw[hb0,HD1.out]
 have HB0:=hid hb0';clear hb0';obtain⟨a2,c2,rfl⟩:=ho2.slice;have HO2:=hid ho2;have HX2:=hid hx2;have hz2:=hx2.size;clear hb2 ho2 hx2 hb0 HO1;go_wp2_with fail;refine(ze6 _ (.slice none 0 0) [] 0 (RdB.nil _) (by omega) (by simp)).mono ?_;rintro e w3 ⟨v3,rfl,ho3,hb3⟩;rw[List.nil_append]at ho3;obtain⟨A0,hA0⟩ : ∃ A0,A0=le32 0:=⟨_,rfl⟩
 rw[<-hA0]at ho3;have HA0:=hid hA0;clear hA0;obtain⟨a3,c3,rfl⟩:=ho3.slice;have HO3:=hid ho3;have HX3:=hid (HX2.out.trans hb3);have HO2':=hid (HO2.out.ext hb3);have hz3:=(HX2.out.trans hb3).size;have hsep : ∀ k,(Value.slice a2 b0.length c2).ownBlock=some k->¬ (Value.slice a3 A0.length c3).ownBlock=some k:=fun k h1 h2=>by
  have:=(World.ownsRow.lt HO2.out k h1).2;have:=(World.ownsRow.lt ho3 k h2).1;omega
 have HSEP:=hid hsep;clear hb3 ho3 HO2 hsep;go_wp2_with fail;go_loopw [5,6,23] (fun u5 u6 u23 wr=>∃ i:Nat,u23 = .int .i64 i/\i<=ws.length/\OwnB wr w.heap.size u5 (b0++(ws.take i).flatMap fun p=>putU p.1.toNat)/\OwnB wr w.heap.size u6 (ja (ws.take i))/\(∀ k,u5.ownBlock=some k->¬ u6.ownBlock=some k)/\Ext w wr) (fun _ _ u23 _=>ws.length-(intOf u23).toNat);case atStart=>exact⟨0,rfl,Nat.zero_le _,by simpa using HO2'.out.low hz1,by(have:=HA0.out;simpa[ja,<-this] using HO3.out.low hz2),HSEP.out,HX3.out⟩
 case round=>
  clear HO2' HO3 HSEP HX3 HX2 HX1;obtain⟨i,rfl,hi,hb,ha,hsep,hx⟩:=hrel;obtain⟨ab,cb,rfl⟩:=hb.slice;obtain⟨aa,ca,rfl⟩:=ha.slice;have hbl:=zg8 (ws.take i);rw[List.length_take,Nat.min_eq_left hi]at hbl;have hb0l:b0.length<=29:=by
   have:=HB0.out;rw[this,List.length_append,List.length_append];have h1:=(zq n).2;have h2:=(zq ws.length).2;have h4:magicB.length=9:=rfl;omega
  have hal:(ja (ws.take i)).length<=4+512*i:=by
   unfold ja;rw[List.length_append,zc3,zte _ (HOK.out.take i),List.length_take,Nat.min_eq_left hi];omega
  by_cases hlt:i<ws.length
  ·obtain⟨gl,ol,cl,u,e,hgl,-,d0,d1,h1,h2,-⟩:=(HV.out.ext hx).atWr i hlt;simp only[Value.slice.injEq]at e;obtain⟨rfl,-,rfl⟩:=e;obtain⟨p1,p2,p3⟩:=HOK.out.2 _ (List.getElem_mem hlt);have htk:=List.take_succ_eq_append_getElem hlt;have hbs:b0++(ws.take (i+1)).flatMap (fun p=>putU p.1.toNat)=b0++(ws.take i).flatMap (fun p=>putU p.1.toNat)++putU ws[i].1.toNat:=by
    rw[htk,List.flatMap_append];simp
   have has:ja (ws.take (i+1))=ja (ws.take i)++ws[i].2:=by
    unfold ja;rw[htk,List.flatMap_append];simp
   generalize ws[i]=x at d0 d1 h1 h2 p1 p2 p3 hbs has;obtain⟨bn,data⟩:=x;dsimp only at d0 d1 h1 h2 p1 p2 p3 hbs has;obtain⟨q,rfl⟩ : ∃ q:Nat,bn=q:=⟨bn.toNat,by omega⟩
   obtain⟨ua,uc,rfl⟩:=h2.slice';obtain⟨B,hB⟩ : ∃ B,B=b0++(ws.take i).flatMap (fun p=>putU p.1.toNat):=⟨_,rfl⟩
   obtain⟨A,hA⟩ : ∃ A,A=ja (ws.take i):=⟨_,rfl⟩
   rw[<-hB]at hb hbs;rw[<-hA]at ha has hal;have hBl:B.length<=200:=by rw[hB,List.length_append];omega
   rw[Int.toNat_natCast]at hbs;rw[<-hB,<-hA];have HBS:=hid hbs;have HAS:=hid has;have HBB:=hid hb;have HAA:=hid ha;have HSEP:=hid hsep;have HX:=hid hx;have hu2:RdB wr (.slice ua 512 uc) data:=by rw[<-p3];exact h2
   have HU:=hid hu2;rw[p3]at d1;clear hu2;have P3:=hid p3;clear p3;have hwq:IntKind.u64.wrap (q:Int)=(q:Int):=by
    unfold IntKind.wrap;simp[IntKind.min,IntKind.max,IntKind.bits,IntKind.signed];omega
   have i1:(i:Int)<(ws.length:Int):=by omega
   have hzr:=hx.size;clear hb ha hsep hx h2 hbs has hB hA htk;go_wp2_with fail;have hxa:Ext wr (wr.alloc (.cells #[.int .i64 (q:Int),.slice ua 512 uc] 220)):=(Ext.refl _).alloc _;have hra:(wr.alloc (.cells #[.int .i64 (q:Int),.slice ua 512 uc] 220)).heap[wr.heap.size]? = some (.cells #[.int .i64 (q:Int),.slice ua 512 uc] 220 (0,0)):=heap_alloc_new _ _;have hq2:(q:Int)<=1000000:=p2;refine(yi _ _ B q (zk (HBB.out.ext hxa)) (by omega) (by omega)).mono ?_;rintro e w5 ⟨v5,rfl,ho5,hb5⟩;rw[<-HBS.out]at ho5;have hx5:Ext wr w5:=hxa.trans hb5;have z0:w5.cell? ⟨wr.heap.size,1,none⟩=some (.slice ua 512 uc):=Ext.cellS hb5 ((cr 1 hra));obtain⟨B',hB'⟩ : ∃ B',B'=b0++(ws.take (i+1)).flatMap (fun p=>putU p.1.toNat):=⟨_,rfl⟩
   rw[<-hB']at ho5;obtain⟨ab',cb',rfl⟩:=ho5.slice;have HO5:=hid ho5;have HBE:=hid hB';have HX5:=hid hx5;have hz5:=hx5.size;have hza:(wr.alloc (.cells #[.int .i64 (q:Int),.slice ua 512 uc] 220)).heap.size=wr.heap.size+1:=by simp
   rw[hza]at HO5;clear ho5 hb5 hB' hra hxa hza HBB;go_wp2_with (at_builtin;go_must (refine kw rfl _ _ _ rfl w.heap.size _ A rfl (qg (HAA.out.ext HX5.out)) _ data rfl (bz (by have:=P3.out;(first|exact HU.out.ext HX5.out|exact this▸(HU.out.ext HX5.out)))) ?_ ?_ ?_;(have:=P3.out;omega);omega;intro v6 w6 k1 k2 k3 k4 k5 k6))
   have ho6:=k3 (HAA.out.ext HX5.out);rw[<-HAS.out]at ho6;have hk56:Keep (fun k=>¬ (Value.slice aa A.length ca).ownBlock=some k) w5 w6:=(zl k4).mono fun k hk _ e=>hk e.symm;have haw : ∀ k,(Value.slice aa A.length ca).ownBlock=some k->w.heap.size<=k/\k<wr.heap.size:=fun k hk=>World.ownsRow.lt HAA.out k hk;have ho5':OwnB w6 w.heap.size (.slice ab' B'.length cb') B':=by
    refine OwnB.low (base:=wr.heap.size+1) ?_ (by omega);exact bt HO5.out (hk56.mono fun k hk _ e=>by have h1:=haw k e;have h2:=(World.ownsRow.lt HO5.out k hk).1;omega)
   have hsep6 : ∀ k,(Value.slice ab' B'.length cb').ownBlock=some k->¬ v6.ownBlock=some k:=fun k h1 h2=>by
    have h3:=World.ownsRow.lt HO5.out k h1;rcases k6 k h2 with h|h
    ·have:=haw k h;omega
    ·omega
   have hx6:Ext w w6:=Ext.step (HX.out.trans HX5.out) k5 (Nat.le_refl _);have HH:=hid (show OwnB w6 w.heap.size (.slice ab' B'.length cb') (b0++(ws.take (i+1)).flatMap fun p=>putU p.1.toNat) by rw[<-HBE.out];exact ho5');have H6:=hid ho6;have HS6:=hid hsep6;have HX6:=hid hx6;clear k1 k2 k3 k4 k5 k6 ho6 hk56 haw ho5' hsep6 hx6;go_wp2_with fail;exact⟨⟨i+1,rfl,by omega,HH.out,H6.out,HS6.out,HX6.out⟩,by simp only[intOf];omega⟩
  ·have hie:i=ws.length:=by omega
   subst hie;rw[List.take_length]at hb ha hal hsep;have i1 : ¬ ((ws.length:Nat):Int)<(ws.length:Int):=by omega
   obtain⟨B,hB⟩ : ∃ B,B=jb n ws:=⟨_,rfl⟩
   have hBe:b0++ws.flatMap (fun p=>putU p.1.toNat)=B:=by rw[hB,HB0.out];rfl
   rw[List.take_length];rw[hBe]at hb hsep ⊢;obtain⟨A,hA⟩ : ∃ A,A=ja ws:=⟨_,rfl⟩
   rw[<-hA]at ha hal hsep ⊢;have hBl:B.length<=189:=by rw[hB];exact zqk n ws hl16
   have HBB:=hid hb;have HAA:=hid ha;have HX:=hid hx;have HJD:=hid (show jd n ws=B++le32 (sumF (A++B)) by rw[hB,hA];rfl);have hzr:=hx.size;have HSEP:=hid hsep;clear hb ha hsep hx hB hA hBe hlt hbl;have hAl:A.length<=9000:=by omega
   go_wp2_with (at_builtin;go_must (refine kw rfl _ _ _ rfl w.heap.size _ A rfl (qg HAA.out) _ B rfl (bz (zk HBB.out)) ?_ ?_ ?_;omega;omega;intro v6 w6 k1 k2 k3 k4 k5 k6))
   have ho6:=k3 HAA.out;have hk6:Keep (fun k=>¬ (Value.slice aa A.length ca).ownBlock=some k) wr w6:=(zl k4).mono fun k hk _ e=>hk e.symm;have hob6:=bt HBB.out (hk6.mono fun k hk _ e=>HSEP.out k hk e);have HX6:=hid (Ext.step HX.out k5 (Nat.le_refl _));obtain⟨T,hT⟩ : ∃ T,T=A++B:=⟨_,rfl⟩
   rw[<-hT]at ho6;rw[<-hT]at HJD;obtain⟨a6,c6,rfl⟩:=ho6.slice;have HO6:=hid ho6;have HOB6:=hid hob6;have hz6:=HX6.out.size;clear k1 k2 k3 k4 k5 k6 ho6 hk6 hob6 hT HSEP HBB HAA;refine(zfn w6 _ T (zk HO6.out)).mono ?_;rintro e w7 ⟨rfl,hb7⟩;have hsm:=zhm T;have HOB7:=hid (HOB6.out.ext (hb7:Ext w6 w7));have HX7:=hid (HX6.out.trans (hb7:Ext w6 w7));have hz7:=HX7.out.size;generalize sumF T=sm at hsm HJD ⊢;clear hb7 HOB6 HO6;go_wp2_with fail;refine(ze6 w7 _ B sm (zk HOB7.out) (by omega) (by omega)).mono ?_;rintro e w8 ⟨v8,rfl,ho8,hb8⟩;rw[<-HJD.out]at ho8;have hjl:=zkp n ws hl16;obtain⟨hfl,hhl⟩:=zcs n ws hl16;have HHE:=hid (show qr n ws=putF 106 (jd n ws)++List.replicate (512-(putF 106 (jd n ws)).length) 0 from rfl);generalize jd n ws=J at ho8 hjl hfl HHE;obtain⟨a8,c8,rfl⟩:=ho8.slice;have HO8:=hid ho8;have HX8:=hid (HX7.out.trans (hb8:Ext w7 w8));have hz8:=HX8.out.size;clear ho8 hb8 HOB7;go_wp2_with fail;refine(zoz w8 _ J (zk HO8.out) (by omega)).mono ?_;rintro e w9 ⟨v9,rfl,ho9,hb9⟩;generalize putF 106 J=P at ho9 hfl HHE;obtain⟨a9,c9,rfl⟩:=ho9.slice;have HO9:=hid ho9;have HX9:=hid (HX8.out.trans (hb9:Ext w8 w9));have hz9:=HX9.out.size;have hsub:IntKind.i64.wrap (512-(P.length:Int))=((512-P.length:Nat):Int):=by rw[IntKind.wrap_i64];omega
   have hz89:w8.heap.size<=w9.heap.size:=(hb9:Ext w8 w9).size;clear ho9 hb9 HO8;go_wp2_with (at_builtin;go_must (refine zfa rfl _ _ rfl w8.heap.size _ P rfl (qg HO9.out) (512-P.length) rfl ?_ ?_ ?_;(first|omega|skip);(first|omega|skip);intro v4 w4 k1 k2 k3 k4 k5 k6;have ho4:=k3 HO9.out;have hx4:Ext w w4:=Ext.step HX9.out (k5.mono hz8) (Nat.le_refl _);clear k1 k2 k3 k4 k5 k6))
   go_ret;rw[<-HHE.out]at ho4;exact⟨v4,rfl,ho4.low hz8,hx4⟩
open Go.RowKit Go.Maps
def yb (frm:Int):List JW->Int->Dv->Int × Dv
 | [],_,d=>(0,d)
 | p :: ps,i,d=>if (zy d (if frm=0 then 20+p.1 else frm+i) p.2).1≠0 then zy d (if frm=0 then 20+p.1 else frm+i) p.2 else yb frm ps (i+1) (zy d (if frm=0 then 20+p.1 else frm+i) p.2).2
def RolNew (ρ ρ':Nat->Option DRol) (W:World):Prop:=∀ k,ρ' k≠none->ρ k≠none\/W.heap.size<=k
theorem RolNew.refl (ρ:Nat->Option DRol) (W:World):RolNew ρ ρ W:=fun _ h=>.inl h
theorem zj3 {W W1 W2:World}{ρ ρ1 ρ2:Nat->Option DRol} (hk1:Keep (fun k=>ρ k=none) W W1) (hr1:RolNew ρ ρ1 W) (hk2:Keep (fun k=>ρ1 k=none) W1 W2) (hr2:RolNew ρ1 ρ2 W1):Keep (fun k=>ρ k=none) W W2/\RolNew ρ ρ2 W:=
 bm (Ext.refl W) hk1 hr1 hk2 hr2
theorem ky {W:World}{ρ ρ':Nat->Option DRol} (h:RolNew ρ ρ' W) {k:Nat} (hk:ρ k=none) (hl:k<W.heap.size):ρ' k=none:=by
 by_cases e:ρ' k=none
 ·exact e
 ·rcases h k e with h1|h1
  ·exact absurd hk h1
  ·omega
theorem x8 {W:World}{g o:Nat}{u:Value} (hc:W.cell? ⟨g,o,none⟩=some u):g<W.heap.size:=by
 rcases Nat.lt_or_ge g W.heap.size with h|h
 ·exact h
 ·simp[World.cell?,Array.getElem?_eq_none h]at hc
theorem yk {W W':World}{S:Nat->Prop} (hk:Keep S W W') {g o:Nat}{u:Value} (hc:W.cell? ⟨g,o,none⟩=some u) (hs:S g):W'.cell? ⟨g,o,none⟩=some u:=
 (World.cell?_of_block (hk.block g hs (x8 hc))).trans hc
theorem zft {w W:World}{g:Nat}{ρ:Nat->Option DRol}{N:Nat}{d:Dv} (hm:Mine w W g ρ N d) (hN:N<=999900000) (bw bf bl gl:Nat) (frm:Int) (hfr:0<=frm/\frm<=1000) (S:Nat->Prop) (v:Value) (ws:List JW)
  (cw:W.cell? ⟨bw,0,none⟩=some v) (cf:W.cell? ⟨bf,0,none⟩=some (.int .i64 frm)) (cl:W.cell? ⟨bl,0,none⟩=some (.pointer (some ⟨gl,0,none⟩))) (cg:W.cell? ⟨gl,0,none⟩=some (.pointer (some ⟨g,0,none⟩)))
  (rw':ρ bw=none) (rf:ρ bf=none) (rl:ρ bl=none) (rg:ρ gl=none) (hv:RdS rWr W S v ws) (hS : ∀ k,S k->ρ k=none) (hok:WsOk ws) :
  Calls Tryz.prog 160 #[.pointer (some ⟨bw,0,none⟩),.pointer (some ⟨bf,0,none⟩),.pointer (some ⟨bl,0,none⟩)] W fun e W'=>
   e = .returned (.int .i64 (yb frm ws 0 d).1)/\(∃ ρ',Mine w W' g ρ' (N+40) (yb frm ws 0 d).2/\RolNew ρ ρ' W)/\Keep (fun k=>ρ k=none) W W':=by
 obtain⟨va,vc,rfl,-⟩:=hv.slice;obtain⟨hf1,hf2⟩:=hfr;have HV:=hid hv;have HS:=hid hS;have HOK:=hid hok;have HM:=hid hm;have hl16:=hok.1;have CW:=hid cw;have CF:=hid cf;have CL:=hid cl;have CG:=hid cg;have RF:=hid rf;have RL:=hid rl;have RG:=hid rg;clear hv hS hok hm rw' rf rl rg;go_enter Tryz.func160,Tryz.ntmps160;go_wp2_with fail;clear cw cf cl cg;go_loopw [10] (fun u10 wr=>∃ (i:Nat) (ρi:Nat->Option DRol) (di:Dv),u10 = .int .i64 i/\i<=ws.length/\yb frm ws 0 d=yb frm (ws.drop i) i di/\Mine w wr g ρi (N+2*i) di/\RolNew ρ ρi W/\Keep (fun k=>ρ k=none) W wr) (fun u10 _=>ws.length-(intOf u10).toNat);case atStart=>exact⟨0,ρ,d,rfl,Nat.zero_le _,rfl,HM.out,RolNew.refl _ _,Keep.refl _ _⟩
 case round=>
  obtain⟨i,ρi,di,rfl,hi,hwf,hmi,hri,hki⟩:=hrel;have c1:=yk hki CF.out RF.out;have c2:=yk hki CL.out RL.out;have c3:=yk hki CG.out RG.out;have HWF:=hid hwf;have HMI:=hid hmi;have HRI:=hid hri;have HKI:=hid hki;have hzi:=hki.size;by_cases hlt:i<ws.length
  ·obtain⟨gr,o,cap,u,e,hgr,hSg,d0,d1,h1,h2,h3⟩:=HV.out.atWr i hlt;simp only[Value.slice.injEq]at e;obtain⟨rfl,-,rfl⟩:=e;obtain⟨p1,p2,p3⟩:=HOK.out.2 _ (List.getElem_mem hlt);have hdr:ws.drop i=ws[i] :: ws.drop (i+1):=List.drop_eq_getElem_cons hlt;generalize ws[i]=x at d0 d1 h1 h2 h3 p1 p2 p3 hdr;obtain⟨bn,data⟩:=x;dsimp only at d0 d1 h1 h2 h3 p1 p2 p3;obtain⟨ua,uc,rfl⟩:=h2.slice';obtain⟨nn,hnn⟩ : ∃ nn:Int,nn=if frm=0 then 20+bn else frm+i:=⟨_,rfl⟩
   have hst:yb frm ws 0 d=if (zy di nn data).1≠0 then zy di nn data else yb frm (ws.drop (i+1)) ((i+1:Nat):Int) (zy di nn data).2:=by
    rw[hwf,hdr,hnn];show (if _ then _ else _)=_;rw[show ((i+1:Nat):Int)=(i:Int)+1 by omega]
   have HST:=hid hst;have e0:=yk hki d0 (HS.out gr hSg);have e1:=yk hki d1 (HS.out gr hSg);have hu:RdB wr (.slice ua data.length uc) data:=Rd.carry0 h2 hki.size fun h0 k hk hl=>hki.block k (HS.out k (h3 h0 k hk)) hl;have hus : ∀ k,(Value.slice ua data.length uc).ownBlock=some k->ρi k=none/\k<wr.heap.size:=fun k hk=>by
    have hl:=Rd.block_lt h2 (by omega) k hk;exact⟨ky hri (HS.out k (h3 (by omega) k hk)) hl,by omega⟩
   have hgw:gr<wr.heap.size:=by omega
   have HUS:=hid hus;have i1:(i:Int)<(ws.length:Int):=by omega
   have hu5:RdB wr (.slice ua 512 uc) data:=by rw[<-p3];exact hu
   have hus5 : ∀ k,(Value.slice ua 512 uc).ownBlock=some k->ρi k=none:=fun k hk=>(hus k (by rw[<-hk];cases ua <;> rfl)).1;have HU5:=hid hu5;have HUS5:=hid hus5;have P3:=hid p3;rw[p3]at e1;have hnb : -9223372036854775808<=nn/\nn<=9223372036854775807:=by rw[hnn];split <;> omega
   have HNB:=hid hnb;have HNN:=hid hnn;clear hwf hmi hri hki hst hu hus d0 d1 h2 h3 hdr p3 hu5 hus5 hnb hnn HUS;have hw1:IntKind.i64.wrap (frm+(i:Int))=frm+i:=by rw[IntKind.wrap_i64];omega
   have hw2:IntKind.i64.wrap (20+bn)=20+bn:=by rw[IntKind.wrap_i64];omega
   have hcase:(frm=0/\nn=20+bn)\/(¬ frm=0/\nn=frm+i):=by
    by_cases h:frm=0
    ·left;exact⟨h,by rw[HNN.out,if_pos h]⟩
    ·right;exact⟨h,by rw[HNN.out,if_neg h]⟩
   clear HNN;have l1:=x8 c1;have l2:=x8 c2;have l3:=x8 c3;have l1a : ¬ bf=wr.heap.size:=by omega
   have l1b : ¬ wr.heap.size=bf:=by omega
   have l2a : ¬ bl=wr.heap.size:=by omega
   have l2b : ¬ wr.heap.size=bl:=by omega
   have l3a : ¬ gl=wr.heap.size:=by omega
   have l3b : ¬ wr.heap.size=gl:=by omega
   have hfr0 : ∀ W':World,Ext wr W'->True:=fun _ _=>trivial;rcases hcase with⟨h5,h6⟩|⟨h5,h6⟩;all_goals
    subst h6;(try subst h5);go_wp2_with fail;obtain⟨wa,hwa⟩ : ∃ wa,wa=wr.alloc (.cells #[.int .i64 bn,.slice ua 512 uc] 220):=⟨_,rfl⟩
    rw[<-hwa];have hxa:Ext wr wa:=by rw[hwa];exact(Ext.refl _).alloc _
    have hra:wa.heap[wr.heap.size]? = some (.cells #[.int .i64 bn,.slice ua 512 uc] 220 (0,0)):=by rw[hwa];exact heap_alloc_new _ _
    have z1:wa.cell? ⟨wr.heap.size,1,none⟩=some (.slice ua 512 uc):=(cr 1 hra)
    have hxd:Ext wr wa.drew:=by(exact Ext.xt)
    have zd:wa.drew.cell? ⟨wr.heap.size,1,none⟩=some (.slice ua 512 uc):=z1;have y2:=Ext.cellS hxd c2;have y3:=Ext.cellS hxd c3;clear hwa hra z1;refine zr (fun w'=>w'.cell? ⟨bl,0,none⟩=some (.pointer (some ⟨gl,0,none⟩))/\w'.cell? ⟨gl,0,none⟩=some (.pointer (some ⟨g,0,none⟩))/\w'.cell? ⟨wr.heap.size,1,none⟩=some (.slice ua 512 uc)) [7,8] (by kernel_rfl) ⟨y2,y3,zd⟩ (fun hS=>?_);(refine za 0 rfl ?_;(try simp only[Act.put,tq0,tq1,tq2,tq3,tq4,tq5]));(refine za 1 rfl ?_;(try simp only[Act.put,tq0,tq1,tq2,tq3,tq4,tq5]));(refine za 2 rfl ?_;(try simp only[Act.put,tq0,tq1,tq2,tq3,tq4,tq5]));(refine za 3 rfl ?_;(try simp only[Act.put,tq0,tq1,tq2,tq3,tq4,tq5]));(refine za 4 rfl ?_;(try simp only[Act.put,tq0,tq1,tq2,tq3,tq4,tq5]));(refine za 5 rfl ?_;(try simp only[Act.put,tq0,tq1,tq2,tq3,tq4,tq5]));(refine za 6 rfl ?_;(try simp only[Act.put,tq0,tq1,tq2,tq3,tq4,tq5]));refine ze (rs:=[7]) (by kernel_rfl) (by decide) (AllT.consF rfl rfl (fun K hK=>?_) AllT.nil);go_simp;go_at_call 122;refine(zhh (HMI.out.ext hxd) (by omega) _ HNB.out _ data (HU5.out.ext hxd) HUS5.out).mono ?_;rintro e w5 ⟨rfl,⟨ρ5,hm5,hr5⟩,hk5⟩;obtain⟨q1,q2⟩:=zj3 HKI.out HRI.out ((hxd.keep _).trans hk5) (fun k hk=>(hr5 k hk).imp id (fun h=>Nat.le_trans hxd.size h));have Q1:=hid q1;have Q2:=hid q2;have HM5:=hid hm5;clear q1 q2 hr5 hk5 hm5 hS y2 y3 zd;(refine hK.out _ _ ?_;clear hK K);refine ze (rs:=[8]) (by kernel_rfl) (by decide) (AllT.consF rfl rfl (fun K hK=>?_) AllT.nil);go_simp;(refine hK.out _ _ ?_;clear hK K);refine zn (by kernel_rfl) (NoPanic.normal ?_) _;have HST2:=HST.out;generalize hX:zy di _ data=X at HM5 HST2 ⊢;obtain⟨x,d5⟩:=X;dsimp only at HM5 HST2 ⊢;by_cases hx0:x=0
    ·subst hx0;rw[if_neg (by simp)]at HST2;have HST3:=hid HST2;clear HST2 HST hX;go_wp2_with fail;exact⟨⟨i+1,ρ5,d5,rfl,by omega,HST3.out,HM5.out.mono (by omega),Q2.out,Q1.out⟩,by simp only[intOf];omega⟩
    ·rw[if_pos hx0]at HST2;have HST3:=hid HST2;clear HST2 HST hX;go_wp2_with fail;go_ret;exact⟨by rw[HST3.out];rfl,⟨ρ5,by rw[HST3.out];exact HM5.out.mono (by omega),Q2.out⟩,Q1.out⟩
  ·have hie:i=ws.length:=by omega
   subst hie;have i1 : ¬ ((ws.length:Nat):Int)<(ws.length:Int):=by omega
   have HE:=hid (show yb frm ws 0 d=(0,di) by rw[hwf,List.drop_length];rfl);clear hwf hmi hri hki c1 c2 c3;go_wp2_with fail;go_ret;exact⟨by rw[HE.out];rfl,⟨ρi,by rw[HE.out];exact HMI.out.mono (by omega),HRI.out⟩,HKI.out⟩
open Go.RowKit Go.Maps
def ztv (fv:Value) (W:World) (P:Ending->World->Prop):Prop:=
 (∃ c1 c2 c3,fv = .func (.func 160) #[] #[c1,c2,c3]/\Calls Tryz.prog 160 #[c1,c2,c3] W P)\/
 (∃ p,fv = .func (.func 123) #[p] #[]/\Calls Tryz.prog 123 #[p] W P)\/
 (∃ c1,fv = .func (.func 152) #[] #[c1]/\Calls Tryz.prog 152 #[c1] W P)\/
 (∃ c1 c2,fv = .func (.func 129) #[] #[c1,c2]/\Calls Tryz.prog 129 #[c1,c2] W P)\/
 (∃ c1 c2,fv = .func (.func 131) #[] #[c1,c2]/\Calls Tryz.prog 131 #[c1,c2] W P)
def zv3 (I:Nat->World->Prop) (R:Int->World->Prop) (i:Nat) (e:Ending) (W:World):Prop:=∃ x:Int,e = .returned (.int .i64 x)/\(x=0->I (i+1) W)/\(x≠0->R x W)
theorem zh5 (W:World) (gf:Nat) (fvs:List Value) (hk:fvs.length<=10) (I:Nat->World->Prop) (R:Int->World->Prop)
  (hrow : ∀ i W',I i W'->W'.heap[gf]? = some (.cells fvs.toArray 66 (0,0)))
  (hstep : ∀ i W',(h:i<fvs.length)->I i W'->ztv fvs[i] W' (zv3 I R i)) (h0:I 0 W) :
  Calls Tryz.prog 127 #[.slice (some ⟨gf,0,none⟩) fvs.length fvs.length] W fun e W'=>(e = .returned (.int .i64 0)/\I fvs.length W')\/∃ x:Int,x≠0/\e = .returned (.int .i64 x)/\R x W':=by
 have HR:=hid hrow;have HS:=hid hstep;have H0:=hid h0;clear hrow hstep h0;go_enter Tryz.func127,Tryz.ntmps127;go_wp2_with fail;go_loopw [8] (fun u8 wr=>∃ i:Nat,u8 = .int .i64 i/\i<=fvs.length/\I i wr) (fun u8 _=>fvs.length-(intOf u8).toNat);case atStart=>exact⟨0,rfl,Nat.zero_le _,H0.out⟩
 case round=>
  obtain⟨i,rfl,hi,hI⟩:=hrel;by_cases hlt:i<fvs.length
  ·have hr:=HR.out i wr hI;have hg:gf<wr.heap.size:=(blt hr)
   have hc:wr.cell? ⟨gf,i,none⟩=some fvs[i]:=by rw[cell_of_row _ _ _ _ _ _ hr];simp[hlt]
   have hcall:=HS.out i wr hlt hI;have i1:(i:Int)<(fvs.length:Int):=by omega
   generalize fvs[i]=fv at hc hcall;clear hr;rcases hcall with⟨c1,c2,c3,rfl,hcl⟩|⟨p,rfl,hcl⟩|⟨c1,rfl,hcl⟩|⟨c1,c2,rfl,hcl⟩|⟨c1,c2,rfl,hcl⟩;all_goals
    have HCL:=hid hcl;clear hcl;go_wp2_with fail;refine HCL.out.mono ?_;rintro e w5 ⟨x,rfl,hx0,hx1⟩;by_cases hx:x=0
    ·subst hx;have hI':=hid (hx0 rfl);clear hx0 hx1 HCL;go_wp2_with fail;exact⟨⟨i+1,rfl,by omega,hI'.out⟩,by simp only[intOf];omega⟩
    ·have hR':=hid (hx1 hx);clear hx0 hx1 HCL;go_wp2_with fail;go_ret;exact .inr ⟨x,hx,rfl,hR'.out⟩
  ·have hie:i=fvs.length:=by omega
   subst hie;have i1 : ¬ ((fvs.length:Nat):Int)<(fvs.length:Int):=by omega
   have hI':=hid hI;clear hI;go_wp2_with fail;go_ret;exact .inl ⟨rfl,hI'.out⟩
end
end Go.Proofs.YtnadlnmclameiaaGreatDoor
