/- part 18 -/
import Derived.Test.YtnadlnmclameiaaGreatDoorTS17
set_option maxRecDepth 100000
set_option maxHeartbeats 8000000
set_option linter.all false
namespace Go.Proofs.YtnadlnmclameiaaGreatDoor
section
open Go.RowKit Go.Maps
theorem zus:(zj zb).data=[]:=by
 have hu:zi (zb.drop 5)=(0,1,0):=by
  have h:=qi 0 (by omega) (List.replicate 506 0);have e:zb.drop 5=putU 0++List.replicate 506 0:=by
   unfold zb;rw[List.drop_replicate];rfl
  rw[e];exact h
 unfold zj;rw[hu];repeat' split
 all_goals rfl
theorem zob:k7 zb=none:=by
 unfold k7;rw[zus];exact if_neg fun h=>by have:=h.2.1.1;simp at this
open Go.RowKit Go.Maps
theorem LogS.cur {L:Nat}{s s':Int->Bk}{n:Nat}{H:Int->Bk} (h:LogS L s n H) (hl:64<=L) (he : ∀ j:Int,0<=j->j<L->s' j=s j):LogS L s' n H:=
 ⟨h.rec'.cur (he 0 (by omega) (by omega)) (he (0+1) (by omega) (by omega)),by rw[he 2 (by omega) (by omega)];exact h.num,fun j a b=>(he j (by omega) b).trans (h.home j a b)⟩
theorem zrd {w W:World}{g:Nat}{ρ:Nat->Option DRol}{N:Nat}{d:Dv}{L:Nat} (hm:Mine w W g ρ N d) (hN:N<=999999000) (hL:d.safe.length=L) (P:(Int->Bk)->Prop) (hP : ∀ s,Img d s->P s) (S:Nat->Prop) (v:Value) (picks:List Int) (hv:RdS rI W S v picks) (hS : ∀ k,S k->k<W.heap.size->ρ k=none) :
  Calls Tryz.prog 12 #[.pointer (some ⟨g,0,none⟩),v] W fun e W'=>e = .returned (.tuple #[])/\∃ d',Mine w W' g ρ N d'/\Calm d'/\qk d'/\d'.safe.length=L/\P (curF d')/\Keep (fun k=>ρ k=none) W W':=by
 refine(zxo hm hN S v picks hv hS).mono ?_;rintro e W' ⟨rfl,h1,h2⟩;obtain⟨h3,h4,h5,h6⟩:=ztg d picks;exact⟨rfl,_,h1,zbx h3 h5,h4,h6.trans hL,hP _ (zqm d picks),h2⟩
end
section
open Go.RowKit Go.Maps
structure PutG (w W:World) (g:Nat) (ρ:Nat->Option DRol) (N:Nat) (d:Dv) (gl L n:Nat) (C:Int->Bk) (P:(Int->Bk)->Prop):Prop where
 hm:Mine w W g ρ N d
 up:Up d
 len:d.safe.length=L
 log:LogRow W gl g ((L:Int)-20) n false
 low:w.heap.size<=gl
 rol:ρ gl=none
 img : ∀ s,Img d s->(RecI s 0 n (yg n)/\∀ m,k7 (s 2)=some m->m<=n)/\P s
 cur : ∀ j:Int,20<=j->j<L->curF d j=C j
section
variable {w W W':World}{g:Nat}{ρ:Nat->Option DRol}{N N':Nat}{d:Dv}{gl L n:Nat}{C H:Int->Bk}{P Q:(Int->Bk)->Prop}
theorem LogAt.putG (h:LogAt w W g ρ N d gl L n H) (hl:64<=L) (hP : ∀ s,(∀ j:Int,20<=j->j<L->s j=H j)->P s):PutG w W g ρ N d gl L n H P:=by
 refine⟨h.hm,h.up,h.len,h.log,h.low,h.rol,fun s hi=>?_,h.sp.home⟩;have hi':=ks h.st hi;rw[h.len]at hi';exact⟨⟨h.sp.rec'.cur (hi' 0 (by omega) (by omega)) (hi' (0+1) (by omega) (by omega)),by rw[hi' 2 (by omega) (by omega)];exact h.sp.num⟩,hP s fun j a b=>(hi' j (by omega) b).trans (h.sp.home j a b)⟩
theorem LogAt.keepT (h:LogAt w W g ρ N d gl L n H) (hk:Keep (fun k=>(ρ k≠none\/k<w.heap.size)\/k=gl) W W'):LogAt w W' g ρ N d gl L n H:=
 { h with hm:=h.hm.kept (hk.mono fun k hk _=>.inl hk),log:=h.log.keep hk (.inr rfl) }
theorem PutG.more (h:PutG w W g ρ N d gl L n C P) (hn:N<=N'):PutG w W g ρ N' d gl L n C P:={ h with hm:=h.hm.mono hn }
theorem PutG.ext (h:PutG w W g ρ N d gl L n C P) (hx:Ext W W'):PutG w W' g ρ N d gl L n C P:={ h with hm:=h.hm.ext hx,log:=h.log.ext hx }
theorem PutG.kept (h:PutG w W g ρ N d gl L n C P) (hk:Keep (fun k=>(ρ k≠none\/k<w.heap.size)\/k=gl) W W'):PutG w W' g ρ N d gl L n C P:=
 { h with hm:=h.hm.kept (hk.mono fun k hk _=>.inl hk),log:=h.log.keep hk (.inr rfl) }
theorem PutG.home (h:PutG w W g ρ N d gl L n C P) {C':Int->Bk} (hc : ∀ j:Int,20<=j->j<L->C j=C' j):PutG w W g ρ N d gl L n C' P:={ h with cur:=fun j a b=>(h.cur j a b).trans (hc j a b) }
theorem PutG.glt (h:PutG w W g ρ N d gl L n C P):gl<W.heap.size:=h.log.lt
end
theorem zo1 {w W:World}{g:Nat}{ρ:Nat->Option DRol}{N:Nat}{d:Dv} (hm:Mine w W g ρ N d) (hup:d.down=false) (gl:Nat) (size:Int) (hsz:0<=size/\size<=1000) (last:Nat) (hlog:LogRow W gl g size last false) (n:Int) (hn : -9223372036854775808<=n/\n<=9223372036854775807) (hout:n<0\/size<=n) :
  Calls Tryz.prog 63 #[.pointer (some ⟨gl,0,none⟩),.int .i64 n] W fun e W'=>e = .returned (.tuple #[.slice none 0 0,.int .i64 42])/\W=W':=by
 have HM:=hid hm;have HC:=hid hup;have HL:=hid hlog;have HN:=hid hn;have hu:useF size n 0 false=42:=by unfold useF;rw[if_pos hout]
 have HU:=hid hu;clear hm hup hlog hout hn hu;go_enter Tryz.func63,Tryz.ntmps63;go_wp2_with fail;refine(zc5 HM.out HC.out gl size hsz last HL.out n HN.out none 0 0 false).mono ?_;rintro e w1 ⟨rfl,rfl⟩;rw[HU.out];go_wp2_with fail;refine bodyPost_ret (v:=.tuple #[.slice none 0 0,.int .i64 42]) (by simp[results,Tryz.results63,go_sem]) rfl ?_;exact⟨rfl,rfl⟩
theorem zrf {w W:World}{g:Nat}{ρ:Nat->Option DRol}{N:Nat}{d:Dv} (hm:Mine w W g ρ N d) (hN:N<=999999000) (hc:Up d) (gl:Nat) (hgl:w.heap.size<=gl) (hrl:ρ gl=none) (size:Int) (hsz:0<=size/\size<=1000) (hsd:size+20<=d.safe.length) (last:Nat) (hlog:LogRow W gl g size last false) (n:Int) (hn:0<=n/\n<size)
  (va:Option Addr) (vc:Nat) (data:List UInt8) (hv:RdB W (.slice va 512 vc) data) (hvb : ∀ k,(Value.slice va 512 vc).ownBlock=some k->ρ k=none) (hd:data.length=512) :
  Calls Tryz.prog 144 #[.pointer (some ⟨gl,0,none⟩),.int .i64 n,.slice va 512 vc] W fun e W'=>∃ ρ' d',RolNew ρ ρ' W/\Keep (fun k=>ρ k=none/\k≠gl) W W'/\Mine w W' g ρ' (N+2) d'/\
   ((e = .returned (.int .i64 0)/\Up d'/\Wr d (20+n) data d'/\LogRow W' gl g size last false/\(d.fuse = -1->d'.fuse = -1))\/
    (e = .returned (.int .i64 2)/\d.fuse≠ -1/\d'.down=true/\Same d d')):=by
 have HM:=hid hm;have HC:=hid hc;have HL:=hid hlog;have HRL:=hid hrl;have hu:useF size n 512 true=0:=by unfold useF;rw[if_neg (by omega),if_neg (by simp)]
 have HU:=hid hu;have hw:IntKind.i64.wrap (20+n)=20+n:=by rw[IntKind.wrap_i64];omega
 have c0:=hlog.c0;have HV:=hid hv;have HVB:=hid hvb;have HD:=hid hd;have hwu:=zb2 hc (n:=20+n) (by omega) hd;have HWU:=hid hwu;clear hm hc hlog hrl hu hv hvb hd hwu;go_enter Tryz.func144,Tryz.ntmps144;go_wp2_with fail;refine(zc5 HM.out HC.out.up gl size hsz last HL.out n (by omega) va 512 vc true).mono ?_;rintro e w1 ⟨rfl,rfl⟩;rw[HU.out];go_wp2_with fail;refine(zhh HM.out hN (20+n) (by omega) _ data HV.out HVB.out).mono ?_;rintro e w2 ⟨rfl,⟨ρ2,hm2,hr2⟩,hk2⟩;have HL2:=hid (HL.out.keep hk2 HRL.out);have HR2:=hid (show RolNew ρ ρ2 W from hr2);have HRL2:=hid (ky HR2.out HRL.out HL.out.lt);have HK2:=hid hk2;have hks : ∀ u,Keep (fun j=>j≠gl) w2 (w2.setCell ⟨gl,3,none⟩ u):=fun u=>(Keep.refl _ _).setCell (by simp) _;have HKS:=hid hks;rcases HWU.out with⟨d',e1,h1,h2,h3⟩|⟨h0,d',e1,h1,h2⟩
 ·rw[e1]at hm2 ⊢;have HM2:=hid hm2;have H1:=hid h1;have H2:=hid h2;have H3:=hid h3;clear hm2 hr2 hk2 hks h1 h2 h3 e1;go_wp2_with fail;refine(zcu w2 gl g size last HL2.out 0 (.inl rfl)).mono ?_;rintro e w3 ⟨rfl,rfl⟩;go_wp2_with fail;go_ret;exact⟨ρ2,d',HR2.out,(HK2.out.mono fun j hj _=>hj.1).trans ((HKS.out _).mono fun j hj _=>hj.2),HM2.out.log hgl HRL2.out 3 _,.inl ⟨rfl,H2.out,H1.out,HL2.out.dead _,H3.out⟩⟩
 ·rw[e1]at hm2 ⊢;have HM2:=hid hm2;have H1:=hid h1;have H2:=hid h2;have H0:=hid h0;clear hm2 hr2 hk2 hks h1 h2 h0 e1;go_wp2_with fail;refine(zcu w2 gl g size last HL2.out 2 (.inr (.inr rfl))).mono ?_;rintro e w3 ⟨rfl,rfl⟩;go_wp2_with fail;go_ret;exact⟨ρ2,d',HR2.out,(HK2.out.mono fun j hj _=>hj.1).trans ((HKS.out _).mono fun j hj _=>hj.2),HM2.out.log hgl HRL2.out 3 _,.inr ⟨rfl,H0.out,H2.out,H1.out⟩⟩
section
variable {w W:World}{g:Nat}{ρ:Nat->Option DRol}{N:Nat}{d:Dv}{gl L n:Nat}{C:Int->Bk}{P:(Int->Bk)->Prop}
theorem GPut (h:PutG w W g ρ N d gl L n C P) (hN:N<=999999000) (hl:64<=L/\L<=1000) (j:Int) (hj:0<=j/\j<(L:Int)-20) (va:Option Addr) (vc:Nat) (data:List UInt8) (hv:RdB W (.slice va 512 vc) data) (hvb : ∀ k,(Value.slice va 512 vc).ownBlock=some k->ρ k=none) (hd:data.length=512)
  (hP : ∀ s s',P s->(∀ i:Int,i≠20+j->s' i=s i)->s' (20+j)=data->P s') :
  Calls Tryz.prog 144 #[.pointer (some ⟨gl,0,none⟩),.int .i64 j,.slice va 512 vc] W fun e W'=>∃ ρ' d',RolNew ρ ρ' W/\Keep (fun k=>ρ k=none/\k≠gl) W W'/\
   ((e = .returned (.int .i64 0)/\PutG w W' g ρ' (N+2) d' gl L n (fun i=>if i=20+j then data else C i) P/\(d.fuse = -1->d'.fuse = -1))\/
    (e = .returned (.int .i64 2)/\d.fuse≠ -1/\DownAt w W' g ρ' (N+2) d' L fun s=>LogS L s n s/\P s)):=by
 refine(zrf h.hm hN h.up gl h.low h.rol _ (by omega) (by have:=h.len;omega) n h.log j hj va vc data hv hvb hd).mono ?_;rintro e W' ⟨ρ',d',hr',hk',hm',⟨rfl,hu',hw',hlog',hf'⟩|⟨rfl,hf,hd',hs'⟩⟩
 ·refine⟨ρ',d',hr',hk',.inl ⟨rfl,⟨hm',hu',hw'.len.trans h.len,hlog',h.low,ky hr' h.rol h.log.lt,fun s hs=>?_,fun i i0 i1=>?_⟩,hf'⟩⟩
  ·rcases hw'.img hs with⟨s0,h1,h2,h3⟩|h1
   ·obtain⟨⟨h4,h5⟩,h6⟩:=h.img s0 h1;exact⟨⟨h4.cur (h2 0 (by omega)) (h2 (0+1) (by omega)),by rw[h2 2 (by omega)];exact h5⟩,hP s0 s h6 h2 h3⟩
   ·exact h.img s h1
  ·rw[hw'.cur i];show (if i=20+j then data else curF d i)=if i=20+j then data else C i
   rw[h.cur i i0 i1]
 ·refine⟨ρ',d',hr',hk',.inr ⟨rfl,hf,hm',hd',hs'.len.trans h.len,fun s hs=>?_⟩⟩;obtain⟨⟨h4,h5⟩,h6⟩:=h.img s (hs'.img hs);exact⟨⟨h4,h5,fun _ _ _=>rfl⟩,h6⟩
theorem zwi (h:PutG w W g ρ N d gl L n C P) (hN:N<=999700000) (hl:64<=L/\L<=1000) (hn:n<=100000000) (hPx : ∀ s s',P s->(∀ j:Int,20<=j->j<L->s' j=s j)->P s') (v:Value) (ws:List JW) (hv:RdS rWr W (fun k=>ρ k=none/\k≠gl) v ws) (hin:WsIn L ws) :
  Calls Tryz.prog 76 #[.pointer (some ⟨gl,0,none⟩),v] W fun e W'=>∃ ρ' d',RolNew ρ ρ' W/\Keep (fun k=>ρ k=none/\k≠gl) W W'/\
   ((e = .returned (.int .i64 0)/\LogAt w W' g ρ' (N+500) d' gl L (n+1) (ya 0 ws 0 C)/\(d.fuse = -1->d'.fuse = -1))\/
    (e = .returned (.int .i64 2)/\d.fuse≠ -1/\DownAt w W' g ρ' (N+500) d' L fun s=>(LogS L s n s/\P s)\/WaitS L s n ws C\/LogS L s (n+1) (ya 0 ws 0 C))):=by
 have hwc : ∀ j:Int,20<=j->j<L->ya 0 ws 0 (curF d) j=ya 0 ws 0 C j:=fun j a b=>zb4 0 ws 0 _ _ j (h.cur j a b);obtain⟨h1,h2⟩:=zix h.up h.len hl.1 (n:=n) (by omega) (fun s hs=>(h.img s hs).1) ws hin;refine(zhj h.hm hN h.up.up gl _ (by omega) n hn h.log h.low h.rol v ws hv hin.1 (fun p hp=>hin.2 p hp) h1).mono ?_;rintro e W' ⟨rfl,ρ',hm',hr',hlog',hk'⟩;refine⟨ρ',(yr d n ws).2,hr',hk',?_⟩;rcases h2 with⟨d1,e1,u1,s1,l1,f1,g1⟩|⟨hf,d1,e1,u1,l1,g1⟩
 ·left;rw[e1]at hm' hlog' ⊢;rw[bu]at hlog';exact⟨rfl,⟨hm',u1,s1,l1,hlog',h.low,ky hr' h.rol h.log.lt,g1.mono hwc⟩,f1⟩
 ·right;rw[e1]at hm' ⊢;refine⟨rfl,hf,hm',u1,l1,fun s hi=>?_⟩;rcases g1 s hi with⟨s0,h3,h4⟩|h4|h4
  ·exact .inl ⟨⟨h4.rec',h4.num,fun _ _ _=>rfl⟩,hPx s0 s (h.img s0 h3).2 h4.home⟩
  ·exact .inr (.inl ⟨h4.rec',h4.list,h4.part,fun j a b c=>(h4.home j a b c).trans (h.cur j a b)⟩)
  ·exact .inr (.inr (h4.mono hwc))
end
end
section
open Go.RowKit
theorem RdB.keep {S:Nat->Prop}{w w':World}{v:Value}{l:List UInt8} (h:RdB w v l) (hk:Keep S w w') (hS:0<l.length->∀ k,v.ownBlock=some k->S k):RdB w' v l:=
 Rd.carry0 h hk.size fun hn k hb hl=>hk.block k (hS hn k hb) hl
def qj (l:List UInt8) (st:Nat × Bool):Nat × (Nat × Bool):=
 if (zi (l.drop st.1)).2.2≠0\/32768<(zi (l.drop st.1)).1 then (0,(st.1,true)) else ((zi (l.drop st.1)).1,(st.1+(zi (l.drop st.1)).2.1,st.2))
theorem zsx (l:List UInt8) (st:Nat × Bool) (h:st.1<=l.length):(qj l st).1<=32768/\(qj l st).2.1<=l.length:=by
 have hf:=yh (l.drop st.1);rw[List.length_drop]at hf;unfold qj;split
 ·exact⟨by omega,h⟩
 ·exact⟨by dsimp only;omega,by dsimp only;omega⟩
def CurAt (w:World) (gb ga gd:Nat) (v:Value) (l:List UInt8) (st:Nat × Bool):Prop:=
 w.cell? ⟨gb,0,none⟩=some v/\RdB w v l/\w.heap[ga]? = some (.cells #[.int .i64 st.1] 3 (0,0))/\w.heap[gd]? = some (.cells #[.bool st.2] 4 (0,0))/\ga≠gd/\gb≠ga/\gb≠gd/\st.1<=l.length
  /\ (0<l.length->∀ k,v.ownBlock=some k->k≠ga/\k≠gd)
def zv8 (w:World) (gb ga gd:Nat) (v:Value) (l:List UInt8) (st:Nat × Bool) (e:Ending) (w':World):Prop:=
 e = .returned (.int .i64 ((qj l st).1:Nat))/\CurAt w' gb ga gd v l (qj l st).2/\Keep (fun k=>k≠ga/\k≠gd) w w'
theorem zsw (w:World) (gb ga gd:Nat) (v:Value) (l:List UInt8) (st:Nat × Bool) (h:CurAt w gb ga gd v l st) :
  Calls Tryz.prog 156 #[.pointer (some ⟨gb,0,none⟩),.pointer (some ⟨ga,0,none⟩),.pointer (some ⟨gd,0,none⟩)] w (zv8 w gb ga gd v l st):=by
 have H:=hid h;obtain⟨c0,hr,ha,hd,hn1,hn2,hn3,hst,hv⟩:=h;obtain⟨at0,bad⟩:=st;dsimp only at ha hd hst;have c1:w.cell? ⟨ga,0,none⟩=some (.int .i64 at0):=by rw[cell_of_row _ _ _ _ _ _ ha];rfl
 have c2:w.cell? ⟨gd,0,none⟩=some (.bool bad):=by rw[cell_of_row _ _ _ _ _ _ hd];rfl
 have f1:w.frozen? ⟨ga,0,none⟩=false:=by simp[World.frozen?,ha]
 have f2:w.frozen? ⟨gd,0,none⟩=false:=by simp[World.frozen?,hd]
 obtain⟨a,cap,rfl,hc1,hc2,-,-⟩:=id hr;have HD:=hid (hr.drop at0 hst);have hc3:cap<=9223372036854775807:=by unfold maxLen at hc2;omega
 have hf:=yh (l.drop at0);rw[List.length_drop]at hf;have HNX:=hid (show qj l (at0,bad)=if (zi (l.drop at0)).2.2≠0\/32768<(zi (l.drop at0)).1 then (0,(at0,true)) else ((zi (l.drop at0)).1,(at0+(zi (l.drop at0)).2.1,bad)) from rfl);obtain⟨U,HU⟩ : ∃ U,Hid (zi (l.drop at0)=U):=⟨_,hid rfl⟩
 rw[HU.out]at hf HNX;obtain⟨n,k,e⟩:=U;dsimp only at hf;have HR:=hid hr;have HA:=hid ha;have HDD:=hid hd;have HV:=hid hv;clear hr ha hd H hc2 hv;have KEEP0:=hid (show Keep (fun k=>k≠ga/\k≠gd) w (w.setCell ⟨gd,0,none⟩ (.bool true)) from (Keep.refl _ w).setCell (by simp) _);have key0:CurAt (w.setCell ⟨gd,0,none⟩ (.bool true)) gb ga gd (.slice a l.length cap) l (at0,true):=by
  refine⟨by rw[<-c0];simp[go_sem,hn3],HR.out.keep KEEP0.out HV.out,?_,?_,hn1,hn2,hn3,hst,HV.out⟩
  ·rw[Below.heap_setCell _ _ _ _ hn1];exact HA.out
  ·simp[World.setCell,Array.getElem?_modify,HDD.out]
 have KEY0:=hid key0;clear key0;by_cases he:e=0
 ·subst he;by_cases hbig:32768<n
  ·have HNX2:=hid (show qj l (at0,bad)=(0,(at0,true)) by rw[HNX.out,if_pos (.inr hbig)]);clear HNX;go_enter Tryz.func156,Tryz.ntmps156;go_wp2_with (first|((with_reducible refine yo ?_);go_must (refine yf rfl rfl Tryz.underlying33 qe rfl rfl at0 rfl ?_ ?_;omega))|(go_at_call 103;go_must (refine(yv _ _ (l.drop at0) HD.out).mono ?_;rw[HU.out];dsimp only;rintro e w' ⟨rfl,rfl⟩)))
   go_ret;exact⟨by rw[HNX2.out];rfl,by rw[HNX2.out];exact KEY0.out,KEEP0.out⟩
  ·have HNX2:=hid (show qj l (at0,bad)=(n,(at0+k,bad)) by rw[HNX.out,if_neg (by simp;omega)]);have hk:at0+k<=l.length:=by omega
   have KEEP1:=hid (show Keep (fun k=>k≠ga/\k≠gd) w (w.setCell ⟨ga,0,none⟩ (.int .i64 ((at0:Int)+(k:Int)))) from (Keep.refl _ w).setCell (by simp) _);have key1:CurAt (w.setCell ⟨ga,0,none⟩ (.int .i64 ((at0:Int)+(k:Int)))) gb ga gd (.slice a l.length cap) l (at0+k,bad):=by
    refine⟨by rw[<-c0];simp[go_sem,hn2],HR.out.keep KEEP1.out HV.out,?_,?_,hn1,hn2,hn3,hk,HV.out⟩
    ·simp[World.setCell,Array.getElem?_modify,HA.out]
    ·rw[Below.heap_setCell _ _ _ _ (fun e=>hn1 e.symm)];exact HDD.out
   have KEY1:=hid key1;clear HNX key1;go_enter Tryz.func156,Tryz.ntmps156;go_wp2_with (first|((with_reducible refine yo ?_);go_must (refine yf rfl rfl Tryz.underlying33 qe rfl rfl at0 rfl ?_ ?_;omega))|(go_at_call 103;go_must (refine(yv _ _ (l.drop at0) HD.out).mono ?_;rw[HU.out];dsimp only;rintro e w' ⟨rfl,rfl⟩)))
   go_ret;exact⟨by rw[HNX2.out];rfl,by rw[HNX2.out];exact KEY1.out,KEEP1.out⟩
 ·have he0:((e:Int) == 0)=false:=by rw[beq_eq_false_iff_ne];omega
  have HNX2:=hid (show qj l (at0,bad)=(0,(at0,true)) by rw[HNX.out,if_pos (.inl he)]);clear HNX;go_enter Tryz.func156,Tryz.ntmps156;go_wp2_with (first|((with_reducible refine yo ?_);go_must (refine yf rfl rfl Tryz.underlying33 qe rfl rfl at0 rfl ?_ ?_;omega))|(go_at_call 103;go_must (refine(yv _ _ (l.drop at0) HD.out).mono ?_;rw[HU.out];dsimp only;rintro e w' ⟨rfl,rfl⟩)))
  go_ret;exact⟨by rw[HNX2.out];rfl,by rw[HNX2.out];exact KEY0.out,KEEP0.out⟩
theorem zfk (w:World) (gb ga gd:Nat) (v:Value) (l:List UInt8) (at0:Nat) (bad:Bool) (n at1:Nat) (bad1:Bool) (h:CurAt w gb ga gd v l (at0,bad)) (hn:qj l (at0,bad)=(n,(at1,bad1))) :
  Calls Tryz.prog 156 #[.pointer (some ⟨gb,0,none⟩),.pointer (some ⟨ga,0,none⟩),.pointer (some ⟨gd,0,none⟩)] w (fun e w'=>e = .returned (.int .i64 (n:Nat))/\CurAt w' gb ga gd v l (at1,bad1)/\Keep (fun k=>k≠ga/\k≠gd) w w'):=by
 refine(zsw w gb ga gd v l _ h).mono fun e w' hh=>?_;obtain⟨h1,h2,h3⟩:=hh;rw[hn]at h1 h2;exact⟨h1,h2,h3⟩
end
abbrev Run:=Int × Int
def zm (xs:List Run):List Int:=xs.flatMap fun x=>(List.range x.2.toNat).map fun j:Nat=>x.1+(j:Int)
def putR (l:List Run) (r:Run):List Run:=
 match l.getLast? with
 | some k=>if k.1+k.2=r.1 then l.dropLast++[(k.1,k.2+r.2)] else l++[r]
 | none=>[r]
def z8 (L:List Int):List Run:=L.foldl (fun l b=>putR l (b,1)) []
theorem zcb (r:Run):putR [] r=[r]:=rfl
theorem vh (l:List Run) (k r:Run):putR (l++[k]) r=if k.1+k.2=r.1 then l++[(k.1,k.2+r.2)] else l++[k]++[r]:=by
 unfold putR;rw[List.getLast?_concat,List.dropLast_concat]
theorem xr {α:Type} (l:List α):l=[]\/∃ a k,l=a++[k]:=by
 rcases List.eq_nil_or_concat l with h|⟨a,k,h⟩
 ·exact .inl h
 ·exact .inr ⟨a,k,by simpa using h⟩
theorem zdi (L:List Int) (b:Int):z8 (L++[b])=putR (z8 L) (b,1):=by simp[z8]
theorem bk (a b:List Run):zm (a++b)=zm a++zm b:=by simp[zm]
theorem jm (f:Int) (n:Nat):zm [(f,(n:Int))]=(List.range n).map fun j:Nat=>f+(j:Int):=by simp[zm]
theorem zg3 (f:Int) (n:Nat):zm [(f,((n+1:Nat):Int))]=zm [(f,(n:Int))]++[f+n]:=by
 rw[jm,jm,List.range_succ,List.map_append];rfl
theorem xo (f n:Int):(zm [(f,n)]).length=n.toNat:=by simp[zm]
theorem za2 (r:Run) (l:List Run):zm (r :: l)=zm [r]++zm l:=by simp[zm]
theorem zp4 (l:List Run) (f:Int) (n m:Int):putR (putR l (f,n)) (f+n,m)=putR l (f,n+m):=by
 rcases xr l with rfl|⟨a,k,rfl⟩
 ·rw[zcb,show [(f,n)]=[]++[(f,n)] from rfl,vh,if_pos rfl,zcb];rfl
 ·rw[vh,vh];by_cases h:k.1+k.2=f
  ·rw[if_pos h,if_pos h,vh,if_pos (by dsimp only;omega)];simp only[Int.add_assoc]
  ·rw[if_neg h,if_neg h,vh,if_pos rfl]
theorem zhz (L:List Int) (f:Int) (n:Nat) (hn:0<n):z8 (L++zm [(f,(n:Int))])=putR (z8 L) (f,(n:Int)):=by
 obtain⟨m,rfl⟩ : ∃ m,n=m+1:=⟨n-1,by omega⟩
 clear hn;induction m with
 | zero=>
  have:zm [(f,((0+1:Nat):Int))]=[f]:=by simp[zm]
  rw[this,zdi];rfl
 | succ m ih=>
  rw[zg3,<-List.append_assoc,zdi,ih,zp4];rfl
theorem zp5 (l:List Run) (r:Run) (h : ∀ x∈l,1<=x.2) (hr:1<=r.2) : ∀ x∈putR l r,1<=x.2:=by
 intro x hx;rcases xr l with rfl|⟨a,k,rfl⟩
 ·rw[zcb]at hx;obtain rfl:=List.mem_singleton.1 hx;exact hr
 ·rw[vh]at hx;have hk:=h k (by simp);split at hx
  ·rcases List.mem_append.1 hx with hx|hx
   ·exact h x (by simp[hx])
   ·obtain rfl:=List.mem_singleton.1 hx;dsimp only;omega
  ·rcases List.mem_append.1 hx with hx|hx
   ·exact h x hx
   ·obtain rfl:=List.mem_singleton.1 hx;exact hr
theorem zdj (L:List Int) : ∀ x∈z8 L,1<=x.2:=by
 have key : ∀ (M:List Int) (l:List Run),(∀ x∈l,1<=x.2)->∀ x∈M.foldl (fun l b=>putR l (b,1)) l,1<=x.2:=by
  intro M;induction M with
  | nil=>intro l h;exact h
  | cons b M ih=>intro l h;exact ih _ (zp5 l (b,1) h (Int.le_refl 1))
 exact key L [] (by simp)
theorem zl8 (l:List Run) (r:Run) (h : ∀ x∈l,1<=x.2) (hr:0<=r.2):zm (putR l r)=zm l++zm [r]:=by
 rcases xr l with rfl|⟨a,k,rfl⟩
 ·rw[zcb];rfl
 ·rw[vh];have hk:=h k (by simp);obtain⟨kf,kn⟩:=k;obtain⟨f,n⟩:=r;dsimp only at hk hr ⊢;obtain⟨kn,rfl⟩:=Int.eq_ofNat_of_zero_le (show 0<=kn by omega);obtain⟨n,rfl⟩:=Int.eq_ofNat_of_zero_le hr;split
  ·rename_i he
   subst he;rw[bk,bk,List.append_assoc];congr 1
   rw[show ((kn:Nat):Int)+(n:Int)=((kn+n:Nat):Int) from by omega,jm,jm,jm,List.range_add,List.map_append,List.map_map];congr 1
   apply List.map_congr_left;intro j _;simp only[Function.comp];omega
  ·rw[bk]
theorem vy (L:List Int):zm (z8 L)=L:=by
 have key : ∀ (n:Nat) (M:List Int),M.length=n->zm (z8 M)=M:=by
  intro n;induction n with
  | zero=>intro M hM;obtain rfl:=List.eq_nil_of_length_eq_zero hM;rfl
  | succ n ih=>
   intro M hM;rcases xr M with rfl|⟨a,b,rfl⟩
   ·simp at hM
   ·rw[zdi,zl8 _ _ (zdj a) (Int.zero_le_ofNat 1),ih a (by simpa using hM)];simp[zm]
 exact key _ L rfl
theorem zjd (l:List Run) (h : ∀ r∈l,1<=r.2):l.length<=(zm l).length:=by
 induction l with
 | nil=>simp
 | cons r l ih=>
  have hr:=h r (by simp);have:=ih fun x hx=>h x (by simp[hx]);rw[za2,List.length_append,List.length_cons];obtain⟨f,n⟩:=r;rw[xo];dsimp only at hr;omega
theorem bo (L:List Int):(z8 L).length<=L.length:=by
 have:=zjd (z8 L) (zdj L);rwa [vy]at this
theorem bj (L:List Int):z8 L=[]↔L=[]:=by
 constructor
 ·intro h;have:=vy L;rw[h]at this;exact this.symm
 ·rintro rfl;rfl
theorem zbq {l:List Run}{b:Int}:b∈zm l↔∃ r∈l,r.1<=b/\b<r.1+r.2:=by
 simp only[zm,List.mem_flatMap,List.mem_map,List.mem_range];constructor
 ·rintro ⟨r,hr,j,hj,rfl⟩;exact⟨r,hr,by omega,by omega⟩
 ·rintro ⟨r,hr,h1,h2⟩;exact⟨r,hr,(b-r.1).toNat,by omega,by omega⟩
theorem zdk {L:List Int}{m:Int} (h : ∀ b∈L,0<=b/\b<m) : ∀ r∈z8 L,0<=r.1/\1<=r.2/\r.1+r.2<=m:=by
 intro r hr;have h1:=zdj L r hr;have e:=vy L;have m1:r.1∈zm (z8 L):=zbq.2 ⟨r,hr,by omega,by omega⟩;have m2:r.1+r.2-1∈zm (z8 L):=zbq.2 ⟨r,hr,by omega,by omega⟩;rw[e]at m1 m2;have:=h _ m1;have:=h _ m2;omega
section
open Go.RowKit
def yc (xs:List Run):List Value:=xs.flatMap fun x=>[.int .i64 x.1,.int .i64 x.2]
theorem zgs (a b:List Run):yc (a++b)=yc a++yc b:=by simp[yc]
theorem zj2 (xs:List Run) : ∀ (i:Nat) (h:i<xs.length),(yc xs)[i*2]? = some (.int .i64 xs[i].1)/\(yc xs)[i*2+1]? = some (.int .i64 xs[i].2):=by
 induction xs with
 | nil=>intro i h;simp at h
 | cons x xs ih=>
  intro i h;cases i with
  | zero=>simp[yc]
  | succ i=>
   have:=ih i (by simpa using h);rw[show (i+1)*2=i*2+2 from by omega,show i*2+2+1=i*2+1+2 from by omega];simpa[yc] using this
theorem zj1 (xs:List Run) : ∀ (i:Nat) (m:Int) (h:i<xs.length),(yc xs).set (i*2+1) (.int .i64 m)=yc (xs.set i (xs[i].1,m)):=by
 induction xs with
 | nil=>intro i m h;simp at h
 | cons x xs ih=>
  intro i m h;cases i with
  | zero=>simp[yc]
  | succ i=>
   have:=ih i m (by simpa using h);rw[show (i+1)*2+1=i*2+1+2 from by omega];simp only[yc,List.flatMap_cons,List.cons_append,List.nil_append,List.set_cons_succ,List.getElem_cons_succ]at this ⊢;rw[this]
theorem zb7 (xs:List Run) : ∀ u∈yc xs,u.oneCell'=true:=by
 intro u hu;obtain⟨x,_,hu⟩:=List.mem_flatMap.1 hu;simp only[List.mem_cons,List.not_mem_nil,or_false]at hu;rcases hu with rfl|rfl <;> rfl
def RdR (w:World) (v:Value) (xs:List Run):Prop:=Rd w 2 v xs.length (yc xs)
def OwnR (w:World) (base:Nat) (v:Value) (xs:List Run):Prop:=w.ownsRow base 209 2 v xs.length (yc xs)
def zhf (x:Run):Prop:=(-9223372036854775808<=x.1/\x.1<=9223372036854775807)/\ -9223372036854775808<=x.2/\x.2<=9223372036854775807
section
variable {w w':World}{base:Nat}{v:Value}{xs:List Run}
theorem RdR.ext (h:RdR w v xs) (hx:Ext w w'):RdR w' v xs:=Rd.below h hx
theorem RdR.keep {S:Nat->Prop} (h:RdR w v xs) (hk:Keep S w w') (hS:0<xs.length->∀ k,v.ownBlock=some k->S k):RdR w' v xs:=
 Rd.carry0 h hk.size fun hn k hb hl=>hk.block k (hS hn k hb) hl
theorem RdR.nil (w:World):RdR w (.slice none 0 0) []:=Rd.nil _ _
theorem OwnR.nil (w:World) (base:Nat):OwnR w base (.slice none 0 0) []:=World.ownsRow_nil _ _ _ _
theorem OwnR.rd (h:OwnR w base v xs):RdR w v xs:=za9 h
theorem OwnR.ext (h:OwnR w base v xs) (hx:Ext w w'):OwnR w' base v xs:=zae h hx
theorem OwnR.keep {S:Nat->Prop} (h:OwnR w base v xs) (hk:Keep S w w') (hS : ∀ k,v.ownBlock=some k->S k):OwnR w' base v xs:=zcc h fun k hb=>hk.block k (hS k hb) (h.lt k hb).2
theorem RdR.slice (h:RdR w v xs) : ∃ a cap,v = .slice a xs.length cap/\xs.length<=cap/\cap<=9223372036854775807:=by
 obtain⟨a,cap,rfl,h1,h2,_⟩:=h;exact⟨a,cap,rfl,h1,by unfold maxLen at h2;omega⟩
theorem RdR.at (h:RdR w v xs) (i:Nat) (hi:i<xs.length) :
  ∃ g o cap,v = .slice (some ⟨g,o,none⟩) xs.length cap/\g<w.heap.size/\w.cell? ⟨g,o+i*2,none⟩=some (.int .i64 xs[i].1)/\w.cell? ⟨g,o+i*2+1,none⟩=some (.int .i64 xs[i].2):=by
 obtain⟨a,cap,rfl,h1,h2,h3,h4⟩:=h;obtain⟨g,o,rfl,hg,hc⟩:=h4 (by omega);obtain⟨e1,e2⟩:=zj2 xs i hi;exact⟨g,o,cap,rfl,hg,by rw[hc _ (by omega),e1],by rw[Nat.add_assoc,hc _ (by omega),e2]⟩
theorem OwnR.at (h:OwnR w base v xs) (i:Nat) (hi:i<xs.length) :
  ∃ g cap,v = .slice (some ⟨g,0,none⟩) xs.length cap/\base<=g/\g<w.heap.size/\w.cell? ⟨g,i*2,none⟩=some (.int .i64 xs[i].1)/\w.cell? ⟨g,i*2+1,none⟩=some (.int .i64 xs[i].2)/\
   w.frozen? ⟨g,i*2,none⟩=false/\w.frozen? ⟨g,i*2+1,none⟩=false:=by
 obtain⟨g,o,cap,rfl,hg,c0,c1⟩:=h.rd.at i hi;have hlt:=h.lt g rfl;have ho:o=0:=by
  rcases h.2 with⟨e,h0⟩|⟨g',cap',cur,e,_⟩
  ·omega
  ·simp only[Value.slice.injEq,Option.some.injEq,Addr.mk.injEq]at e;omega
 subst ho;rw[Nat.zero_add]at c0 c1;exact⟨g,cap,rfl,hlt.1,hg,c0,c1,World.ownsRow.frozenAt h _,World.ownsRow.frozenAt h _⟩
theorem OwnR.setLen {g cap n:Nat} (h:OwnR w base (.slice (some ⟨g,0,none⟩) n cap) xs) (i:Nat) (hi:i<xs.length) (m:Int) (hn:n=xs.length):OwnR (w.setCell ⟨g,i*2+1,none⟩ (.int .i64 m)) base (.slice (some ⟨g,0,none⟩) n cap) (xs.set i (xs[i].1,m)):=by
 subst hn;have:=(World.ownsRow.stored h (i*2+1) (.int .i64 m)).1;unfold OwnR;rw[List.length_set,<-zj1 xs i m hi];exact this
end
theorem zvr:(Tryz.prog.info? 209).map (fun i=>(i.zero,i.size,i.bytes))=some (some (.agg #[.int .i64 0,.int .i64 0]),2,16):=by kernel_rfl
theorem zbw {w:World}{ops:Array Oper}{rest:List Oper}{o:Oper}{a:Act}{Q:Exit->Act->World->Prop} (hgd:o.guard=none) (s x:Operand) (tx:TypeId)
  (ho:o.op = .call { callee:=.builtin .append,args:=#[s,x],argTypes:=#[176,tx] }) (base:Nat)
  (v:Value) (xs:List Run) (hs:a.eval s=v) (happ:OwnR w base v xs)
  (y:Value) (ys:List Run) (hx:a.eval x=y) (hsrc:Src Tryz.prog 2 tx y ys.length (yc ys) w)
  (hbytes:(xs.length+ys.length)*16<=140737488355328) (hbase:base<=w.heap.size)
  (h : ∀ v' w',OwnR w' base v' (xs++ys)->w.grownBy w' v.ownBlock->Below base w w'->(∀ k,v'.ownBlock=some k->v.ownBlock=some k\/w.heap.size<=k)->wpList Tryz.prog ops Q rest (a.put o.dst v') w'):wpList Tryz.prog ops Q (o :: rest) a w:=by
 obtain⟨i0,hi,hz0,hz1,hz2⟩:=info_parts zvr;refine wpList_plain hgd fun _ hK=>ka s x 176 tx ho base 209 i0 (.agg #[.int .i64 0,.int .i64 0]) 2 16 Tryz.underlying176 hi hz0 hz1 hz2 rfl v xs.length (yc xs) hs (.inl happ) (zb7 xs) y ys.length (yc ys) hx hsrc (by omega) (by omega) hbase ?_;intro v' w' h1 h2 h3 h4 h5 h6;have:=h3 happ;rw[<-List.length_append,<-zgs]at this;exact hK _ _ (h v' w' this h4 h5 h6)
theorem zc9 (w:World) (g:Nat) (r:Run) (hg:w.heap.size=g):Src Tryz.prog 2 176 (.slice (some ⟨g,0,none⟩) 1 1) [r].length (yc [r]) (w.alloc (.cells #[.int .i64 r.1,.int .i64 r.2] 209)):=by
 subst hg;refine Src.ofSlice _ Tryz.underlying176 ⟨w.heap.size,0,none⟩ 1 1 (yc [r]) rfl (fun j u hu=>?_) (zb7 _);match j with
 | 0=>simp[yc]at hu;subst hu;simp[Addr.add,go_sem]
 | 1=>simp[yc]at hu;subst hu;simp[Addr.add,go_sem]
 | j+2=>simp[yc]at hu
theorem zxw {w:World}{x:Value}{m:List Run} (h:RdR w x m):Src Tryz.prog 2 176 x m.length (yc m) w:=zb5 Tryz.underlying176 h (zb7 m)
end
end Go.Proofs.YtnadlnmclameiaaGreatDoor
