/- part 8 -/
import Derived.Test.YtnadlnmclameiaaGreatDoorTS07
import Derived.Lib.SlKeysI
import Derived.Deep.QuietTactic
import Derived.BigQuiet
set_option maxRecDepth 100000
set_option maxHeartbeats 8000000
set_option linter.all false
namespace Go.Proofs.YtnadlnmclameiaaGreatDoor
section
open Go.RowKit Go.Maps Go.Sort Go.Shelf
def yw (d:Dv):List Nat:=(List.range d.safe.length).filter fun (k:Nat)=>decide (d.pend (k:Int)≠[])
def qz (d:Dv):List Int:=(yw d).map fun (k:Nat)=>(k:Int)
theorem zcp {d:Dv}{k:Nat}:k∈yw d↔k<d.safe.length/\d.pend (k:Int)≠[]:=by
 unfold yw;rw[List.mem_filter,List.mem_range];simp
theorem zf5 (d:Dv):(yw d).Pairwise (· < ·):=by
 unfold yw;exact List.Pairwise.filter _ (List.pairwise_lt_range)
theorem zii (d:Dv):(yw d).length<=d.safe.length:=by
 unfold yw;exact Nat.le_trans (List.length_filter_le _ _) (by rw[List.length_range];exact Nat.le_refl _)
theorem zf6 (d:Dv):(qz d).Pairwise (· < ·):=by
 unfold qz;rw[List.pairwise_map];exact(zf5 d).imp fun h=>by omega
theorem zeo {d:Dv} (hr : ∀ n,d.pend n≠[]->0<=n/\n<d.safe.length) {x:Int}:x∈qz d↔d.pend x≠[]:=by
 unfold qz;rw[List.mem_map];constructor
 ·rintro ⟨k,hk,rfl⟩;exact(zcp.1 hk).2
 ·intro h;obtain⟨h1,h2⟩:=hr x h;obtain⟨k,rfl⟩ : ∃ k:Nat,x=k:=⟨x.toNat,by omega⟩
  exact⟨k,zcp.2 ⟨by omega,h⟩,rfl⟩
theorem zn6 (d:Dv):(qz d).mergeSort leI=qz d:=by
 refine List.mergeSort_of_pairwise ?_;exact(zf6 d).imp fun h=>by simp only[leI,decide_eq_true_eq];omega
theorem br (d:Dv):(qz d).length=(yw d).length:=by unfold qz;rw[List.length_map]
theorem zwy (m:Nat):AnyZI.SortsIn Tryz.prog zfw Fence.wide m:=
 ⟨fun blk off cap ss W hH hblk hsz=>callsIn_wide.2 (AnyM.slices_Sort_int zt9 blk off cap ss W hH hblk hsz),
  fun p cap W=>callsIn_wide.2 (AnyM.slices_Sort_int_none zt9 p cap W)⟩
theorem zme (w:World) (g:Nat) (ρ:Nat->Option DRol) (N:Nat) (d:Dv) (h:DvAt w g ρ N d) (hN:N<=1000000000) :
  Calls Tryz.prog 27 #[.pointer (some ⟨g,0,none⟩)] w fun e w'=>∃ v,e = .returned v/\OwnS rI 3 w' w.heap.size (fun _=>False) v (qz d)/\Ext w w':=by
 obtain⟨vs,gm,m,h⟩:=h;have c1:=h.c1;obtain⟨D,hown,hkeys⟩:=h.map;have HHAS:=hid h.has;have HRNG:=hid h.rng;have hglt:=h.glt;have hsz:d.safe.length<=512:=h.size.2;clear h;have hbl:=hown.lt;have hmax:Maps.size D<=maxLen:=Nat.le_trans hown.size_le (by unfold maxLen;omega);have hbytes:Maps.size D*8<=140737488355328:=by have:=hown.size_le;omega
 have hseq:SeqGives Fence.wide 2 Tryz.prog 100 #[.pointer (some ⟨w.heap.size,0,none⟩)] encZ (fun ss=>ss.Perm (intKeys D)) (Maps.size D) (w.alloc (.cells #[.map (some gm)] 63)):=
  AnyZI.keys_gives (ρ:=ziq) { zue with } Fence.wide _ trivial rfl (by omega) w.heap.size gm N D _ (by simp) (by simp) (by
   obtain⟨es,clock,hb,Ft,hs,hD⟩:=hown;exact⟨es,clock,(Below.heap_alloc _ _ gm hbl).trans hb,Ft,hs,hD⟩)
 have cK : ∀ mb W,CallsIn Fence.wide 5 Tryz.prog 58 #[.map mb] W fun e w'=>e = .returned (.func (.func 100) #[] #[.pointer (some ⟨W.heap.size,0,none⟩)])/\w'=W.alloc (.cells #[.map mb] 63):=fun mb W=>AnyZI.keys_in zue Fence.wide 5 trivial rfl mb W;have cS:=AnyZI.sorted_in zu3 Fence.wide 5 trivial trivial trivial trivial rfl (by omega) (zwy _) (enters_of Tryz.func99 (by kernel_rfl) rfl) 100 #[.pointer (some ⟨w.heap.size,0,none⟩)] trivial (enters_of Tryz.func100 (by kernel_rfl) rfl) _ _ hmax hbytes _ hseq;change CallsIn _ _ Tryz.prog 57 _ _ _ at cS;have HOWN:=hid hown;have HKEYS:=hid hkeys;clear hown hkeys hseq hmax hbytes;refine(callsIn_wide (n:=6)).1 ?_;have hfK:Fence.wide.fn 58:=trivial;have hfS:Fence.wide.fn 57:=trivial;refine callsIn_of_wp Tryz.func27 rfl trivial ?_ rfl;simp only[Tryz.ntmps27,List.size_toArray,List.length_cons,List.length_nil,Nat.reduceAdd,Nat.reduceSub,Array.replicate_succ,Array.replicate_zero,List.push_toArray,List.append_toArray,List.nil_append,List.cons_append];gi_wp2_with (first
  | (gi_at_call 58;refine(cK _ _).mono ?_;rintro e w' ⟨rfl,rfl⟩)
  | (gi_at_call 57;refine cS.mono ?_;rintro e w' ⟨v,ss,rfl,hS,hrow,hnil,hb⟩))
 go_ret;obtain⟨es,hD,hpw,_⟩:=HOWN.out.entries (int_keyed Tryz.underlying3);obtain⟨es',hD',hko⟩:=HOWN.out.keysOf;obtain rfl:es=es':=by rw[hD]at hD';simpa using hD'
 subst hD;have hk' : ∀ p∈es,∃ x:Int,p.1 = .int .i64 x/\kInt.ok x:=fun p hp=>by
  obtain⟨v,hv⟩:=hko p hp;obtain⟨x,_,hx,hw⟩:=Maps.keyOf_i64 Tryz.underlying3 hv;refine⟨x,hx,?_⟩;have hw:(decide (IntKind.i64.min<=x) && decide (x<=IntKind.i64.max))=true:=hw;rw[Bool.and_eq_true,decide_eq_true_eq,decide_eq_true_eq]at hw;exact hw
 have hmem : ∀ x,x∈qz d↔has (.map es) (.int .i64 x)=true:=fun x=>by
  rw[zeo HRNG.out];constructor
  ·intro hp;have hr:=HRNG.out x hp;have hok:kInt.ok x:=⟨by omega,by omega⟩
   have h1:=(HHAS.out x hok).2 hp;rcases HKEYS.out x hok with⟨e,_⟩|⟨u,_,e,_⟩
   ·rw[e]at h1;cases h1
   ·exact e
  ·intro hh;have hok:kInt.ok x:=by
    rw[has_eq,List.any_eq_true]at hh;obtain⟨p,hp,hs⟩:=hh;obtain⟨a,ha,hok⟩:=hk' p hp;rw[ha]at hs;have:a=x:=by simpa[Lit.sameKey] using hs
    exact this▸hok
   refine(HHAS.out x hok).1 ?_;rcases HKEYS.out x hok with⟨_,e⟩|⟨u,e,_⟩
   ·rw[show kInt.lit x = .int .i64 x from rfl,hh]at e;cases e
   ·rw[e];rfl
 have hperm:=perm_intKeys hpw (fun p hp=>by obtain⟨x,hx,_⟩:=hk' p hp;exact⟨x,hx⟩) ((zf6 d).imp fun h=>by omega) hmem;have hss:ss.mergeSort leI=qz d:=(mergeSort_of_perm_i (hS.trans hperm.symm)).trans (zn6 d);have hln:ss.length=(qz d).length:=by rw[<-hss,List.length_mergeSort]
 change World.ownsRow _ _ _ _ _ _ ((ss.mergeSort leI).map encZ) at hrow;rw[hss,hln]at hrow;refine⟨v,rfl,⟨(qz d).map (fun x=>([encZ x],x)),by rw[List.map_map];exact(List.map_id' _).symm,?_,fun k _ h=>h,fun p hp=>?_⟩,((Ext.refl w).alloc _).trans (hb.mono (by simp))⟩
 ·have hc:cellsOf ((qz d).map (fun x=>([encZ x],x)))=(qz d).map encZ:=by
   unfold cellsOf;rw[List.flatMap_map];induction qz d with
   | nil=>rfl
   | cons a l ih=>rw[List.flatMap_cons,ih];rfl
  rw[hc,List.length_map];exact ownsRow_base_a hrow (by simp)
 ·obtain⟨x,hx,rfl⟩:=List.mem_map.1 hp;have hr:=HRNG.out x ((zeo HRNG.out).1 hx);exact⟨rfl,by dsimp only;omega,by dsimp only;omega⟩
end
section
open Go.RowKit Go.Maps
def zfl (l:List Bk) (s:Bk) (p:Int):Bk:=if zbo p (l.length+1)=0 then s else l.getD (zbo p (l.length+1)-1) s
def yz (d:Dv) (picks:List Int):Nat->List Bk
 | 0=>d.safe
 | i+1=>(yz d picks i).set ((yw d).getD i 0) (zfl (d.pend ((yw d).getD i 0:Nat)) ((yz d picks i).getD ((yw d).getD i 0) zb) (picks.getD i 0))
def vz (d:Dv) (picks:List Int):Dv:={ d with safe:=yz d picks (yw d).length,pend:=fun _=>[],fuse:= -1,down:=false }
theorem za3 (d:Dv) (picks:List Int) (i:Nat):(yz d picks i).length=d.safe.length:=by
 induction i with
 | zero=>rfl
 | succ i ih=>rw[yz,List.length_set,ih]
theorem zps {α:Type}{z:α} (l:List α) {n:Nat} (h:n<l.length):l.set n (l.getD n z)=l:=by
 rw[List.getD_eq_getElem?_getD,List.getElem?_eq_getElem h,Option.getD_some,List.set_getElem_self]
def zx9 (w:World) (g:Nat) (ρ:Nat->Option DRol) (N:Nat) (X:Dv) (e:Ending) (w':World):Prop:=
 e = .returned (.tuple #[])/\DvAt w' g ρ N X/\Keep (fun k=>ρ k=none) w w'
theorem zpg {p:Int}{n:Nat} (hn:0<n):Int.tmod (if p<0 then -(p+1) else p) n=(zbo p n:Int):=by
 rw[Int.tmod_eq_emod_of_nonneg (by split <;> omega),zn5 p n hn]
theorem zrl (w:World) (g:Nat) (ρ:Nat->Option DRol) (N:Nat) (d:Dv) (h:DvAt w g ρ N d) (hN:N<=1000000000) (S:Nat->Prop) (v:Value) (picks:List Int) (hv:RdS rI w S v picks) (hS : ∀ k,S k->k<w.heap.size->ρ k=none) :
  Calls Tryz.prog 12 #[.pointer (some ⟨g,0,none⟩),v] w (zx9 w g ρ N (vz d picks)):=by
 obtain⟨va,vc,rfl,-⟩:=hv.slice;obtain⟨vs,gm,m,hp⟩:=h;obtain⟨gs,sc,e,-⟩:=hp.safe.atBk 0 (by have:=hp.size;omega);subst e;have HP:=hid hp;have HV:=hid hv;have HS:=hid hS;have hgl:=hp.glt;have hsz:d.safe.length<=512:=hp.size.2;clear hv hS hp;go_enter Tryz.func12,Tryz.ntmps12;go_wp2_with fail;refine(zme w g ρ N d ⟨_,gm,m,HP.out⟩ hN).mono ?_;rintro e w1 ⟨vp,rfl,ho1,hx1⟩;obtain⟨pa,pc,rfl⟩:=ho1.slice;have HO1:=hid ho1;have HX1:=hid hx1;have hpl:=zii d;rw[br];clear ho1 hx1;go_wp2_with fail;go_loopw [14] (fun u14 wr=>∃ i:Nat,u14 = .int .i64 i/\i<=(yw d).length/\DvP wr g ρ N { d with safe:=yz d picks i } (.slice (some ⟨gs,0,none⟩) d.safe.length sc) gm m/\Keep (fun k=>k≠gs) w1 wr) (fun u14 _=>(yw d).length-(intOf u14).toNat);case atStart=>
  exact⟨0,rfl,Nat.zero_le _,HP.out.ext HX1.out,Keep.refl _ _⟩
 case round=>
  obtain⟨i,rfl,hi,hpr,hkr⟩:=hrel;by_cases hlt:i<(yw d).length
  ·have hlt':(i:Int)<((qz d).length:Int):=by rw[br];omega
   obtain⟨n,hn⟩ : ∃ n:Nat,(yw d)[i]=n:=⟨_,rfl⟩
   have hnm:n∈yw d:=hn▸List.getElem_mem hlt;obtain⟨hn1,hn2⟩:=zcp.1 hnm;have hkx:Keep (fun k=>k≠gs) w1 wr:=hkr;have hgs1:gs<w.heap.size:=HP.out.lt gs (by rw[HP.out.rsafe gs rfl];simp);have hor:OwnS rI 3 wr w.heap.size (fun _=>False) (.slice pa (qz d).length pc) (qz d):=HO1.out.kept (hkx.mono fun k hk _ e=>by
    rcases hk with hk|hk
    ·exact hk.elim
    ·have:=(HO1.out.lt k hk).1;omega)
   obtain⟨ga,oa,ca,e,hga,-,hcell,-⟩:=hor.rd.atI i (by rw[br];exact hlt);simp only[Value.slice.injEq]at e;obtain⟨rfl,-,rfl⟩:=e;have hpi:(qz d)[i]'(by rw[br];exact hlt)=(n:Int):=by simp only[qz,List.getElem_map,hn]
   rw[hpi]at hcell;have hok:kInt.ok (n:Int):=⟨by omega,by omega⟩
   have hpd:OwnS rBk 85 wr 0 (fun _=>False) ((m n).getD nilS) (d.pend n):=hpr.pend n hok;obtain⟨L,hL⟩ : ∃ L,(d.pend n).length=L:=⟨_,rfl⟩
   have hL0:0<L:=by rw[<-hL];exact List.length_pos_iff.2 hn2
   have hLN:L<=N:=by rw[<-hL];exact hpr.long n
   obtain⟨pr,hpr'⟩ : ∃ pr,zbo (picks.getD i 0) (L+1)=pr:=⟨_,rfl⟩
   have hprl:pr<=L:=by have:=zkg (picks.getD i 0) (L+1) (by omega);omega
   have hnext:yz d picks (i+1)=(yz d picks i).set n (if pr=0 then (yz d picks i).getD n zb else (d.pend n).getD (pr-1) ((yz d picks i).getD n zb)):=by
    have e1:(yw d).getD i 0=n:=by rw[List.getD_eq_getElem?_getD,List.getElem?_eq_getElem hlt,hn];rfl
    rw[yz,e1];unfold zfl;rw[hL,hpr']
   have hlook:(Instr.lookup 63 (.map (some gm)) (.int .i64 (n:Int)) false).run Tryz.prog wr = .ok ((m n).getD (.slice none 0 0)) wr:=hpr.map.look Tryz.underlying63 (ze9 _) (x:=(n:Int)) hok;have hmd:(m n).getD (.slice none 0 0)=(m n).getD nilS:=rfl;obtain⟨la,lc,el⟩:=hpd.slice;rw[hL]at el;rw[hmd,el]at hlook;rw[el]at hpd;have c0:=hpr.c0;have c1:=hpr.c1;have hw1:IntKind.i64.wrap ((L:Int)+1)=(L:Int)+1:=by rw[IntKind.wrap_i64];omega
   have HPR:=hid hpr;have HKR:=hid hkr;have HPD:=hid hpd;have HNEXT:=hid hnext;have HLL:=hid hL;have hkw:Keep (fun k=>ρ k=none) w wr:=(HX1.out.keep _).trans (hkr.mono fun k hk _ e=>by rw[e,HP.out.rsafe gs rfl]at hk;cases hk);have HKW:=hid hkw;obtain⟨P,hP⟩ : ∃ P,picks.getD i 0=P:=⟨_,rfl⟩
   have hPr:zbo P (L+1)=pr:=by rw[<-hP];exact hpr'
   have htm:=zpg (p:=P) (n:=L+1) (by omega);rw[hPr,show ((L+1:Nat):Int)=(L:Int)+1 by omega]at htm;have HP':=hid hP;have hPb : -9223372036854775808<=P/\P<=9223372036854775807:=by
    rw[<-hP];by_cases hip:i<picks.length
    ·obtain⟨_,_,_,_,_,_,_,hb⟩:=HV.out.atI i hip;rw[List.getD_eq_getElem?_getD,List.getElem?_eq_getElem hip];exact hb
    ·rw[List.getD_eq_getElem?_getD,List.getElem?_eq_none (by omega)];exact⟨by decide,by decide⟩
   obtain⟨hPb1,hPb2⟩:=hPb;have hCell:i<picks.length->∃ gp op,va=some ⟨gp,op,none⟩/\wr.cell? ⟨gp,op+i,none⟩=some (.int .i64 P):=fun hip=>by
    obtain⟨gp,op,cp,e,hgp,hgS,hc,-⟩:=HV.out.atI i hip;simp only[Value.slice.injEq]at e;refine⟨gp,op,e.1,?_⟩;rw[World.cell?_of_block (hkw.block gp (HS.out gp hgS hgp) hgp),hc,<-hP,List.getD_eq_getElem?_getD,List.getElem?_eq_getElem hip];rfl
   have hP0 : ¬ i<picks.length->P=0:=fun hip=>by
    rw[<-hP,List.getD_eq_getElem?_getD,List.getElem?_eq_none (by omega)];rfl
   clear hpr hkr hpd hnext hor HO1 hkx hkw hP hPr hpr' hmd hpi hnm hn hL el;have h0r : ¬ (0:Int)<((0:Nat):Int):=by omega
   have hcases:(∃ gp op,va=some ⟨gp,op,none⟩/\wr.cell? ⟨gp,op+i,none⟩=some (.int .i64 P)/\(i:Int)<(picks.length:Int)/\P<0/\IntKind.i64.wrap (P+1)=P+1/\IntKind.i64.wrap (-(P+1)) = -(P+1)/\(-(P+1)).tmod ((L:Int)+1)=(pr:Int))\/(∃ gp op,va=some ⟨gp,op,none⟩/\wr.cell? ⟨gp,op+i,none⟩=some (.int .i64 P)/\(i:Int)<(picks.length:Int)/\¬ P<0/\P.tmod ((L:Int)+1)=(pr:Int))\/(¬ (i:Int)<(picks.length:Int)/\Int.tmod 0 ((L:Int)+1)=(pr:Int)):=by
    by_cases hip:i<picks.length
    ·obtain⟨gp,op,e1,e2⟩:=hCell hip;by_cases hP1:P<0
     ·rw[if_pos hP1]at htm;exact .inl ⟨gp,op,e1,e2,by omega,hP1,by rw[IntKind.wrap_i64];omega,by rw[IntKind.wrap_i64];omega,htm⟩
     ·rw[if_neg hP1]at htm;exact .inr (.inl ⟨gp,op,e1,e2,by omega,hP1,htm⟩)
    ·have e:=hP0 hip;subst e;rw[if_neg (by omega)]at htm;exact .inr (.inr ⟨by omega,htm⟩)
   clear hCell hP0 htm hPb1 hPb2;rcases Nat.eq_zero_or_pos pr with hr0|hr0
   ·subst hr0;rw[show ((0:Nat):Int)=0 from rfl]at hcases;have HEND:=hid (show DvP wr g ρ N { d with safe:=yz d picks (i+1) } (.slice (some ⟨gs,0,none⟩) d.safe.length sc) gm m by
     rw[HNEXT.out,if_pos rfl,zps _ (by rw[za3];exact hn1)];exact HPR.out)
    rcases hcases with⟨gp,op,rfl,hcp,hip,hP1,hwa,hwb,htm⟩|⟨gp,op,rfl,hcp,hip,hP1,htm⟩|⟨hip,htm⟩;all_goals
     go_wp2_with fail;exact⟨⟨i+1,rfl,by omega,HEND.out,HKR.out⟩,by simp only[intOf];omega⟩
   ·obtain⟨q,rfl⟩ : ∃ q,pr=q+1:=⟨pr-1,by omega⟩
    rw[show ((q+1:Nat):Int)=(q:Int)+1 by omega]at hcases;have hq2:q<L:=by omega
    have hq3:(q:Int)<(L:Int):=by omega
    have hq4:(0:Int)<(q:Int)+1:=by omega
    have hwq:IntKind.i64.wrap (q:Int)=q:=by rw[IntKind.wrap_i64];omega
    obtain⟨gl,lc2,e,hgl,hlr,hll⟩:=HPD.out.atBk q (by rw[HLL.out];exact hq2);simp only[Value.slice.injEq]at e;obtain⟨rfl,-,rfl⟩:=e;have hB:(d.pend n).getD q ((yz d picks i).getD n zb)=(d.pend n)[q]'(by rw[HLL.out];exact hq2):=by
     rw[List.getD_eq_getElem?_getD,List.getElem?_eq_getElem];rfl
    have HNX:=hid (show yz d picks (i+1)=(yz d picks i).set n ((d.pend n)[q]'(by rw[HLL.out];exact hq2)) by
     rw[HNEXT.out,if_neg (by omega),show q+1-1=q by omega,hB])
    generalize (d.pend n)[q]'(by rw[HLL.out];exact hq2)=B at hlr hll HNX;have HBL:=hid hll;clear hB hll HNEXT HPD;rcases hcases with⟨gp,op,rfl,hcp,hip,hP1,hwa,hwb,htm⟩|⟨gp,op,rfl,hcp,hip,hP1,htm⟩|⟨hip,htm⟩;all_goals
     go_wp2_with fail;have hxd:Ext wr wr.drew:=by(exact Ext.xt)
     obtain⟨hp4,hth,hk4⟩:=(HPR.out.ext hxd).setSafe n (by show _<(yz d picks i).length;rw[za3];exact hn1) HBL.out;have HP4:=hid hp4;have HK4:=hid hk4;have HTH:=hid hth;clear hp4 hk4 hth;refine jr (fun w'=>w'.cell? ⟨g,0,none⟩=some (.slice (some ⟨gs,0,none⟩) d.safe.length sc)/\w'.rangeAt gl (q*512) (bvs B)) 11 (by kernel_rfl) ⟨Ext.cellS hxd c0,(World.rangeAt_drew _ _ _ _).2 hlr⟩ (fun hS=>?_);(refine zf 0 rfl ?_;(try simp only[Act.put,tq0,tq1,tq2,tq3,tq4,tq5]));(refine zf 1 rfl ?_;(try simp only[Act.put,tq0,tq1,tq2,tq3,tq4,tq5]));(refine zf 2 rfl ?_;(try simp only[Act.put,tq0,tq1,tq2,tq3,tq4,tq5]));(refine zf 3 rfl ?_;(try simp only[Act.put,tq0,tq1,tq2,tq3,tq4,tq5]));(refine zf 4 rfl ?_;(try simp only[Act.put,tq0,tq1,tq2,tq3,tq4,tq5]));(refine zf 5 rfl ?_;(try simp only[Act.put,tq0,tq1,tq2,tq3,tq4,tq5]));(refine zf 6 rfl ?_;(try simp only[Act.put,tq0,tq1,tq2,tq3,tq4,tq5]));(refine zf 7 rfl ?_;(try simp only[Act.put,tq0,tq1,tq2,tq3,tq4,tq5]));(refine zf 8 rfl ?_;(try simp only[Act.put,tq0,tq1,tq2,tq3,tq4,tq5]));refine zax (i:=9) (v:=.agg (bvs B).toArray) rfl (by kernel_rfl) (by kernel_rfl) (by kernel_rfl) (by kernel_rfl) (fun _ _ _ h=>h) (yieldsIf_load_mid (by rfl) 85 _ rfl gl (q*512) rfl (bvs B) _ (fun W hW=>hW.2) Tryz.underlying85 rfl (by rw[jt];simp[bvs,HBL.out])) (by assumption) ?_;try simp only[Act.put,tq0,tq1,tq2,tq3,tq4,tq5]
     (refine zf 10 rfl ?_;(try simp only[Act.put,tq0,tq1,tq2,tq3,tq4,tq5]));(refine qb (i:=11) (by kernel_rfl) rfl (fun K hK=>?_));refine zel rfl _ _ rfl gs n B rfl rfl HBL.out HTH.out ?_;(refine hK.out _ _ (fun h=>absurd rfl h) (fun _=>?_);clear hK K;refine js (by kernel_rfl) ?_ _);refine NoPanic.normal ?_;go_wp2_with fail;refine⟨⟨i+1,rfl,by omega,?_,(HKR.out.trans (hxd.keep _)).trans HK4.out⟩,by simp only[intOf];omega⟩;rw[HNX.out];exact HP4.out
  ·have hie:i=(yw d).length:=by omega
   subst hie;have hlt' : ¬ (((yw d).length:Nat):Int)<((qz d).length:Int):=by rw[br];omega
   have c1:=hpr.c1;obtain⟨w3,hclr,hm3,hk3,hs3⟩:=hpr.map.clear Tryz.underlying63 0;have hp3:=hpr.cleared hm3 hk3;have c2:=hp3.c2;have c3:=hp3.c3;have f2:=zg hp3.head 2;have f3:=zg hp3.head 3;have HP3:=hid hp3;have HK3:=hid hk3;have HKR:=hid hkr;have HPR:=hid hpr;have q3:=zw (o:=3) (zw (o:=2) hp3.head (.int .i64 (-1))) (.bool false);have HQ3:=hid q3;clear q3 hp3 hk3 hkr hpr hm3 hs3 hlt;go_wp2_with fail;go_end0;have hkh:Keep (fun k=>k≠g) w3 ((w3.setCell ⟨g,2,none⟩ (.int .i64 (-1))).setCell ⟨g,3,none⟩ (.bool false)):=((Keep.refl _ _).setCell (by simp) _).setCell (by simp) _;refine⟨rfl,⟨_,gm,_,HP3.out.head' hkh (by simp) (vz d picks) N (Nat.le_refl _) rfl rfl ⟨by show (-1:Int)<= -1;omega,by show (-1:Int)<=9223372036854775807;omega⟩ HP3.out.ops (HQ3.out.trans rfl)⟩,?_⟩;have r1:=HP3.out.rg;have r2:=HPR.out.rm;have r3:=HPR.out.rsafe gs rfl;refine(((HX1.out.keep _).trans (HKR.out.mono fun k hk _ e=>?_)).trans (HK3.out.mono fun k hk _ e=>?_)).trans (hkh.mono fun k hk _ e=>?_)
   ·rw[e,r3]at hk;cases hk
   ·rw[e,r2]at hk;cases hk
   ·rw[e,r1]at hk;cases hk
open Go.RowKit
theorem zp9 {d:Dv}{i j:Nat} (hi:i<(yw d).length) (hj:j<(yw d).length) (h:(yw d)[i]=(yw d)[j]):i=j:=by
 rcases Nat.lt_trichotomy i j with e|e|e
 ·have:=List.pairwise_iff_getElem.1 (zf5 d) i j hi hj e;omega
 ·exact e
 ·have:=List.pairwise_iff_getElem.1 (zf5 d) j i hj hi e;omega
theorem zom (d:Dv) (picks:List Int) : ∀ (i k:Nat),i<=(yw d).length->(yz d picks i).getD k zb=(d.safe.getD k zb)/\(∀ j,(hj:j<(yw d).length)->j<i->(yw d)[j]≠k)\/∃ j,∃ hj:j<(yw d).length,j<i/\(yw d)[j]=k/\(yz d picks i).getD k zb=zfl (d.pend k) (d.safe.getD k zb) (picks.getD j 0):=by
 intro i;induction i with
 | zero=>intro k _;left;exact⟨rfl,fun j _ h=>absurd h (Nat.not_lt_zero _)⟩
 | succ i ih=>
  intro k hi;have hi':i<(yw d).length:=hi;obtain⟨n,hn⟩ : ∃ n,(yw d)[i]=n:=⟨_,rfl⟩
  have e1:(yw d).getD i 0=n:=by rw[List.getD_eq_getElem?_getD,List.getElem?_eq_getElem hi',hn];rfl
  have hnl:n<d.safe.length:=(zcp.1 (hn▸List.getElem_mem hi')).1;rw[yz,e1];by_cases hk:k=n
  ·subst hk;right;refine⟨i,hi',Nat.lt_succ_self _,hn,?_⟩;rw[List.getD_eq_getElem?_getD,List.getElem?_set_self (by rw[za3];exact hnl),Option.getD_some];rcases ih k (by omega) with⟨e,_⟩|⟨j,hj,hlt,he,_⟩
   ·rw[e]
   ·exact absurd (zp9 hj hi' (he.trans hn.symm)) (by omega)
  ·have e2 : ∀ b,((yz d picks i).set n b).getD k zb=(yz d picks i).getD k zb:=fun b=>by
    rw[List.getD_eq_getElem?_getD,List.getElem?_set_ne (fun e=>hk e.symm),<-List.getD_eq_getElem?_getD]
   rw[e2];rcases ih k (by omega) with⟨e,h⟩|⟨j,hj,hlt,he,h⟩
   ·left;refine⟨e,fun j hj hlt=>?_⟩;by_cases hji:j=i
    ·subst hji;intro e';exact hk (e'.symm.trans hn)
    ·exact h j hj (by omega)
   ·right;exact⟨j,hj,by omega,he,h⟩
theorem zqv (d:Dv) (picks:List Int) (k:Nat):curF (vz d picks) (k:Int)=(yz d picks (yw d).length).getD k zb:=by
 unfold curF vz;simp
theorem zqi (l:List Bk) (s:Bk) (p:Int):zfl l s p=s\/zfl l s p∈l:=by
 unfold zfl;have:=zkg p (l.length+1) (by omega);split
 ·exact .inl rfl
 ·right;rw[List.getD_eq_getElem?_getD,List.getElem?_eq_getElem (by omega)];exact List.getElem_mem _
theorem zqt (d:Dv) (picks:List Int) (k:Nat):curF (vz d picks) (k:Int)=d.safe.getD k zb\/curF (vz d picks) (k:Int)∈d.pend (k:Int):=by
 rw[zqv];rcases zom d picks _ k (Nat.le_refl _) with⟨e,_⟩|⟨j,hj,_,he,h⟩
 ·exact .inl e
 ·rw[h];exact zqi _ _ _
theorem zqu (d:Dv) (picks:List Int):(vz d picks).safe.length=d.safe.length:=za3 _ _ _
end
section
open Go.RowKit
theorem zox (w:World) (v:Value) (l:List UInt8) (n:Int) (hv:RdB w v l) (h1 : -9223372036854775808<=n) (h2:n<=9223372036854775807) (hl:l.length+10<=140737488355328) :
  Calls Tryz.prog 46 #[v,.int .i64 n] w (NewB (l++putI n) w):=by
 go_enter Tryz.func46,Tryz.ntmps46;go_wp2_with fail;rw[zrr n h1 h2];refine(yi w v l (zig n) hv (zpb n h1 h2) hl).mono ?_;rintro e w' ⟨v',rfl,ho,hb⟩;go_wp2;go_ret;exact⟨v',rfl,ho,hb⟩
theorem vm (w:World) (v:Value) (l:List UInt8) (s:ByteArray) (hv:RdB w v l) (hs:s.size<=9223372036854775807) (hl:l.length+10+s.size<=140737488355328) :
  Calls Tryz.prog 44 #[v,.string s] w (NewB (l++putT s.data.toList) w):=by
 have hsl:s.data.toList.length=s.size:=by rw[Array.length_toList];rfl
 have hpl:=zq s.size;go_enter Tryz.func44,Tryz.ntmps44;go_wp2_with fail;refine(yi w v l s.size hv (by omega) (by omega)).mono ?_;rintro e w1 ⟨v1,rfl,ho,hb⟩;have hb1:=hb.size;go_wp2_with (at_builtin;go_must (refine kw rfl _ _ _ rfl w.heap.size v1 (l++putU s.size) rfl (qg ho) _ s.data.toList rfl (zmq _ _) ?_ ?_ ?_;(first|omega|(simp only[List.length_cons,List.length_nil,List.length_append,le32];omega));(first|omega|(simp only[World.alloc,Array.size_push];omega));intro v' w' k1 k2 k3 k4 k5 k6))
 go_ret;refine⟨v',rfl,?_,hb.trans k5⟩;rw[putT,hsl,<-List.append_assoc];exact k3 ho
theorem ze6 (w:World) (v:Value) (l:List UInt8) (n:Nat) (hv:RdB w v l) (hn:n<=4294967295) (hl:l.length+10<=140737488355328) :
  Calls Tryz.prog 81 #[v,.int .u32 n] w (NewB (l++le32 n) w):=by
 obtain⟨a,cap,rfl,h1,h2,h3,h4⟩:=id hv;have h2:cap<=9223372036854775807:=by unfold maxLen at h2;omega
 have Happ:AppB w w.heap.size (.slice a l.length l.length) l:=zgb hv;have Hc:Hid ([Value.int .u8 ((n:Int) % 256),.int .u8 ((n:Int) / 256 % 256),.int .u8 ((n:Int) / 65536 % 256),.int .u8 ((n:Int) / 16777216)]=bvs (le32 n)):=by
  show _=_;simp only[le32,bvs,bv,List.map_cons,List.map_nil,UInt8.toNat_ofNat'];simp only[List.cons.injEq,Value.int.injEq,true_and,and_true];omega
 clear h3 h4;go_enter Tryz.func81,Tryz.ntmps81;go_wp2_with (first|(go_at_call 47;refine(zdo _ _ _ _ h1 h2).mono ?_;rintro e w' ⟨rfl,rfl⟩)|(at_builtin;go_must (refine kw rfl _ _ _ rfl w.heap.size (.slice a l.length l.length) l rfl (Happ.alloc _) _ (le32 n) rfl (zu2 w _ _ _ rfl Hc.out) ?_ ?_ ?_;(first|omega|(simp only[List.length_cons,List.length_nil,List.length_append,le32];omega));(first|omega|(simp only[World.alloc,Array.size_push];omega));intro v' w' k1 k2 k3 k4 k5 k6)))
 go_ret;exact⟨v',rfl,k2 (by simp[le32]),((Below.refl _ _).alloc (Nat.le_refl _) _).trans k5⟩
end
section
open Go.RowKit
theorem ret3 {k1 k2 k3:IntKind}{a a' b b' c c':Int} (h1:a=a') (h2:b=b') (h3:c=c'):Ending.returned (.tuple #[.int k1 a,.int k2 b,.int k3 c])=Ending.returned (.tuple #[.int k1 a',.int k2 b',.int k3 c']):=by
 rw[h1,h2,h3]
theorem yv (w:World) (v:Value) (l:List UInt8) (hv:RdB w v l) :
  Calls Tryz.prog 103 #[v] w fun e w'=>e = .returned (.tuple #[.int .u64 (zi l).1,.int .i64 (zi l).2.1,.int .i64 (zi l).2.2])/\w=w':=by
 obtain⟨a,cap,rfl,h1,h2,h3,h4⟩:=id hv;have h2:cap<=9223372036854775807:=by unfold maxLen at h2;omega
 have H4:=hid h4;clear h4 h3;go_enter Tryz.func103,Tryz.ntmps103;go_wp2;go_loop [5,8] (fun n i=>∃ k x m:Nat,k<=10/\k<=l.length/\i = .int .i64 k/\n = .int .u64 x/\zi l=y9 (10-k) k m (l.drop k)/\(k<10->x=m/\m<128 ^ k)) (fun _ i=>10-(intOf i).toNat);case atStart=>exact⟨0,0,0,by omega,by omega,rfl,rfl,rfl,fun _=>⟨rfl,by simp⟩⟩
 case round=>
  obtain⟨k,x,m,hk,hkl,rfl,rfl,heq,hxm⟩:=hrel;have HE:=hid heq;clear heq;by_cases hlt:k<10
  ·obtain⟨rfl,hm⟩:=hxm hlt;have Hf:=hid (show ∃ f,10-k=f+1 from⟨9-k,by omega⟩);by_cases hl:k<l.length
   ·obtain⟨g,o,rfl,hg,hc⟩:=H4.out (by omega);have hck:w.cell? ⟨g,o+k,none⟩=some (.int .u8 (l[k].toNat:Int)):=by rw[hc k (by omega),zb1 l k hl]
    have Hd:=hid (List.drop_eq_getElem_cons hl);clear hc;generalize l[k]=c at hck Hd;have hcb:c.toNat<256:=c.toNat_lt;have HF:Hid (zi l=if 128<=c.toNat then y9 (9-k) (k+1) (x+c.toNat % 128*128 ^ k) (l.drop (k+1)) else if (0<k/\c.toNat=0)\/(k=9/\1<c.toNat) then (0,0,11) else (x+c.toNat % 128*128 ^ k,k+1,0)):=by
     obtain⟨f,hf⟩:=Hf.out;show zi l=_;rw[HE.out,Hd.out,hf,show 9-k=f from by omega];rfl
    by_cases hbig:128<=c.toNat
    ·go_wp2;go_round;case rel=>
      have HF:=HF.out;rw[if_pos hbig]at HF;have he:zi l=y9 (10-(k+1)) (k+1) (x+c.toNat % 128*128 ^ k) (l.drop (k+1)):=by rw[HF,show 10-(k+1)=9-k from by omega]
      by_cases h9:k=9
      ·have hE : ∃ X:Nat,bits BinOp.or IntKind.u64 ↑x (IntKind.u64.wrap (IntKind.u64.wrap (bits BinOp.and IntKind.u8 (↑c.toNat) 127)*2 ^ (7*k)))=(X:Int):=zk3 _ _ _;obtain⟨X,hX⟩:=hE;exact⟨k+1,X,x+c.toNat % 128*128 ^ k,by omega,by omega,by go_num,by rw[hX],he,fun h=>absurd h (by omega)⟩
      ·exact⟨k+1,_,x+c.toNat % 128*128 ^ k,by omega,by omega,by go_num,by rw[zk7 x k _ (by omega) hm hcb],he,fun _=>⟨rfl,zq5 _ _ _ hm⟩⟩
     case measure=>simp[intOf];omega
    ·by_cases hz:(0<k/\c.toNat=0)\/(k=9/\1<c.toNat)
     ·have HF2:Hid (zi l=(0,0,11)):=by show _=_;rw[HF.out,if_neg hbig,if_pos hz]
      rcases hz with⟨hz1,hz2⟩|⟨hz1,hz2⟩
      ·clear hbig;go_wp2;go_ret3;exact⟨by rw[HF2.out];rfl,rfl⟩
      ·subst hz1;go_wp2;all_goals(go_ret3;exact⟨by rw[HF2.out];rfl,rfl⟩)
     ·go_wp2;all_goals go_ret3
      all_goals(refine⟨?_,rfl⟩;rw[HF.out,if_neg hbig,if_neg hz];exact ret3 (zk7 x k _ (by omega) hm hcb) (by dsimp only;omega) rfl)
   ·obtain rfl:k=l.length:=by omega
    go_wp2;go_ret3;refine⟨?_,rfl⟩;obtain⟨f,hf⟩:=Hf.out;rw[HE.out,hf,List.drop_length];rfl
  ·clear hxm;obtain rfl:k=10:=by omega
   go_wp2;go_ret3;refine⟨?_,rfl⟩;rw[HE.out];rfl
end
section
open Go.RowKit
theorem zwh (w:World) (v:Value) (l:List UInt8) (hv:RdB w v l) :
  Calls Tryz.prog 119 #[v] w fun e w'=>e = .returned (.tuple #[.int .i64 (zbl (zi l).1),.int .i64 (zi l).2.1,.int .i64 (zi l).2.2])/\w=w':=by
 have hfc:=yh l;go_enter Tryz.func119,Tryz.ntmps119;go_wp2_with fail;refine(yv w v l hv).mono ?_;rintro e w1 ⟨rfl,rfl⟩;generalize hu:zi l=r at hfc ⊢;obtain⟨u,k,er⟩:=r;obtain⟨f1,f2,f3,f4⟩:=hfc;dsimp only at f1 f2 f3 f4 ⊢;have HU:=hid hu;clear f4 hu;go_wp2;go_ret3;rw[HU.out];exact⟨ret3 (znk u f1) rfl rfl,rfl⟩
theorem zk8 (w:World) (v:Value) (l:List UInt8) (most:Int) (hm1 : -9223372036854775808<=most) (hm2:most<=9223372036854775807) (hv:RdB w v l) :
  Calls Tryz.prog 111 #[v,.int .i64 most] w fun e w'=>e = .returned (.tuple #[.string ⟨(zyg l most).1.toArray⟩,.int .i64 (zyg l most).2.1,.int .i64 (zyg l most).2.2])/\w=w':=by
 have hfc:=yh l;have HT:=hid (show zyg l most=zyg l most from rfl);obtain⟨a,cap,rfl,h1,h2,h3,h4⟩:=id hv;have h2:cap<=9223372036854775807:=by unfold maxLen at h2;omega
 have H4:=hid h4;clear h4 h3;go_enter Tryz.func111,Tryz.ntmps111;go_wp2_with fail;refine(yv w _ l hv).mono ?_;rintro e w1 ⟨rfl,rfl⟩;generalize hu:zi l=r at hfc ⊢;obtain⟨u,k,er⟩:=r;obtain⟨f1,f2,f3,f4⟩:=hfc;dsimp only at f1 f2 f3 f4 ⊢;have HU:=hid hu;clear hu;have HF:Hid (zyg l most=if er≠0 then ([],0,er) else if most<0\/most<(u:Int) then ([],0,12) else if l.length-k<u then ([],0,10) else ((l.drop k).take u,k+u,0)):=by
  show _=_;rw[zyg,HU.out]
 clear HU HT;by_cases he:er=0
 ·subst he;by_cases hneg:most<0
  ·go_wp2;go_ret3;refine⟨?_,rfl⟩;rw[HF.out,if_neg (by simp),if_pos (.inl hneg)];rfl
  ·by_cases hlong:most<u
   ·go_wp2;go_ret3;refine⟨?_,rfl⟩;rw[HF.out,if_neg (by simp),if_pos (.inr hlong)];rfl
   ·by_cases hsh:l.length-k<u
    ·go_wp2;go_ret3;refine⟨?_,rfl⟩;rw[HF.out,if_neg (by simp),if_neg (by omega),if_pos hsh];rfl
    ·have hsub:=RdB.cut hv k (k+u) (by omega) (by omega);rw[show k+u-k=u from by omega]at hsub;have hstr:=zb6 hsub;go_wp2_with ((with_reducible refine yo ?_);go_must (refine zc0 rfl rfl Tryz.underlying33 qe rfl rfl rfl k (k+u) rfl ?_ ?_ ?_ ?_;omega;omega;omega;rw[show k+u-k=u from by omega]))
     go_ret3;refine⟨?_,rfl⟩;rw[HF.out,if_neg (by simp),if_neg (by omega),if_neg hsh];rfl
 ·rcases f4 with f4|⟨f4,rfl,rfl⟩
  ·exact absurd f4.1 he
  ·rcases f4 with rfl|rfl;all_goals
    go_wp2;go_ret3;refine⟨?_,rfl⟩;rw[HF.out];rfl
theorem zm9 (w:World) (v:Value) (l:List UInt8) (hv:RdB w v l) :
  Calls Tryz.prog 158 #[v] w fun e w'=>e = .returned (.tuple #[.int .u32 (u32F l).1,.int .i64 (u32F l).2])/\Below w.heap.size w w':=by
 obtain⟨ad,cap,rfl,h1,h2,h3,h4⟩:=id hv;have h2:cap<=9223372036854775807:=by unfold maxLen at h2;omega
 by_cases h:l.length<4
 ·clear h4;go_enter Tryz.func158,Tryz.ntmps158;go_wp2;go_ret2;refine⟨?_,Below.refl _ _⟩;rw[show u32F l=(0,10) from by
   match l,h with
   | [],_=>rfl
   | [_],_=>rfl
   | [_,_],_=>rfl
   | [_,_,_],_=>rfl]
  rfl
 ·obtain⟨a,b,c,d,r,rfl⟩ : ∃ a b c d r,l=a :: b :: c :: d :: r:=by
   clear hv h1 h3 h4;match l,h with
   | [],h=>exact absurd (by simp) h
   | [_],h=>exact absurd (by simp) h
   | [_,_],h=>exact absurd (by simp) h
   | [_,_,_],h=>exact absurd (by simp) h
   | a :: b :: c :: d :: r,_=>exact⟨a,b,c,d,r,rfl⟩
  obtain⟨g,o,rfl,hg,hc⟩:=h4 (by simp);have c0:w.cell? ⟨g,o,none⟩=some (.int .u8 (a.toNat:Int)):=by simpa[bvs,bv] using hc 0 (by simp)
  have c1:w.cell? ⟨g,o+1,none⟩=some (.int .u8 (b.toNat:Int)):=by simpa[bvs,bv] using hc 1 (by simp)
  have c2:w.cell? ⟨g,o+2,none⟩=some (.int .u8 (c.toNat:Int)):=by simpa[bvs,bv] using hc 2 (by simp)
  have c3:w.cell? ⟨g,o+3,none⟩=some (.int .u8 (d.toNat:Int)):=by simpa[bvs,bv] using hc 3 (by simp)
  have ha:=a.toNat_lt;have hb:=b.toNat_lt;have hc':=c.toNat_lt;have hd:=d.toNat_lt;have hn1:(0:Int)<((a :: b :: c :: d :: r).length:Int):=by simp;omega
  have hn2:(1:Int)<((a :: b :: c :: d :: r).length:Int):=by simp;omega
  have hn3:(2:Int)<((a :: b :: c :: d :: r).length:Int):=by simp;omega
  have hn4:(3:Int)<((a :: b :: c :: d :: r).length:Int):=by simp;omega
  clear hc hv h3;generalize hL:(a :: b :: c :: d :: r).length=L at*;have HL:=hid hL;clear hL;go_enter Tryz.func158,Tryz.ntmps158;go_wp2;go_quiet (fail);go_wp2;go_ret2;refine⟨?_,below_drewN (Below.refl _ _) nq⟩;have hE:=zrx a.toNat b.toNat c.toNat d.toNat ha hb hc' hd;show Ending.returned (.tuple #[.int .u32 _,.int .i64 0])=_;rw[hE];rfl
end
end Go.Proofs.YtnadlnmclameiaaGreatDoor
