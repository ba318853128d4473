/- part 47 -/
import Derived.Test.YtnadlnmclameiaaGreatDoorTS46
set_option maxRecDepth 100000
set_option maxHeartbeats 8000000
set_option linter.all false
namespace Go.Proofs.YtnadlnmclameiaaGreatDoor
section
open Go.RowKit
def rHalf:Rdr (Bool × (List Value × Ent)) where
 size:=6
 rd w S cs p:=cs.length=6/\(∀ u∈cs,u.oneCell'=true)/\(if p.1=true then rEntO.rd w S cs p.2.2 else cs=p.2.1)
 len h:=h.1
 one h u hu:=h.2.1 u hu
 keep {w w' S S' cs x} h hs hb hm:=by
  obtain⟨b,p⟩:=x;obtain⟨h1,h2,h3⟩:=h;refine⟨h1,h2,?_⟩;cases b
  ·exact h3
  ·exact rEntO.keep h3 hs hb hm
def zdy (gs:List (List Value × Ent)):List (List Value × (Bool × (List Value × Ent))):=gs.map fun p=>(p.1,(false,p))
def half (gs:List (List Value × Ent)) (i:Nat):List (Bool × (List Value × Ent)):=(gs.take i).map (fun p=>(true,p))++(gs.drop i).map (fun p=>(false,p))
theorem zeu (gs:List (List Value × Ent)):(zdy gs).length=gs.length:=List.length_map ..
theorem zl2 (gs:List (List Value × Ent)):cellsOf (zdy gs)=cellsOf gs:=by unfold cellsOf zdy;rw[List.flatMap_map]
theorem zqn (gs:List (List Value × Ent)):(zdy gs).map (·.2)=half gs 0:=by simp[zdy,half]
theorem zs2 {w:World}{S S':Nat->Prop}{gs:List (List Value × Ent)} (h : ∀ p∈gs,rEnt.rd w S p.1 p.2) : ∀ p∈zdy gs,rHalf.rd w S' p.1 p.2:=by
 intro p hp;obtain⟨q,hq,rfl⟩:=List.mem_map.1 hp;exact⟨rEnt.len (h q hq),rEnt.one (h q hq),by simp⟩
theorem zau (gs:List (List Value × Ent)) (i:Nat):(half gs i).length=gs.length:=by
 rw[half,List.length_append,List.length_map,List.length_map,<-List.length_append,List.take_append_drop]
theorem zs5 (gs:List (List Value × Ent)) (i:Nat) (hi:i<gs.length):(half gs i)[i]'(by rw[zau];exact hi)=(false,gs[i]):=by
 have h1:((gs.take i).map (fun p=>((true,p):Bool × (List Value × Ent)))).length=i:=by rw[List.length_map,List.length_take];omega
 simp only[half];rw[List.getElem_append_right (by omega)];simp[h1,List.getElem_map,List.getElem_drop,Nat.min_eq_left (Nat.le_of_lt hi)]
theorem zs3 (gs:List (List Value × Ent)) (i:Nat) (hi:i<gs.length) (e:Ent) (he:gs[i].2=e):(half gs i).set i (true,(gs[i].1,e))=half gs (i+1):=by
 subst he;have h1:((gs.take i).map (fun p=>((true,p):Bool × (List Value × Ent)))).length=i:=by rw[List.length_map,List.length_take];omega
 rw[half,List.set_append_right _ _ (by omega),h1,Nat.sub_self,List.drop_eq_getElem_cons hi,List.map_cons,List.set_cons_zero,half,List.take_succ_eq_append_getElem hi,List.map_append,List.append_assoc];rfl
theorem zs4 {w:World}{S:Nat->Prop}{cs old:List Value}{e:Ent} (h:rEntO.rd w S cs e):rHalf.rd w S cs (true,(old,e)):=⟨rEntO.len h,rEntO.one h,by simpa using h⟩
theorem zqo {t:TypeId}{w:World}{base:Nat}{S:Nat->Prop}{v:Value}{gs:List (List Value × Ent)} (h:OwnS rHalf t w base S v (half gs gs.length)):OwnS rEntO t w base S v (gs.map (·.2)):=by
 obtain⟨hs,h1,h2,h3,h4⟩:=h;rw[half,List.take_length,List.drop_length,List.map_nil,List.append_nil]at h1;have hc:cellsOf (hs.map fun q=>((q.1,q.2.2.2):List Value × Ent))=cellsOf hs:=by unfold cellsOf;rw[List.flatMap_map]
 refine⟨hs.map fun q=>(q.1,q.2.2.2),?_,?_,h3,fun p hp=>?_⟩
 ·have h5:=congrArg (List.map fun p:Bool × (List Value × Ent)=>p.2.2) h1;simpa[List.map_map,Function.comp_def] using h5
 ·rw[hc,List.length_map];exact h2
 ·obtain⟨q,hq,rfl⟩:=List.mem_map.1 hp;have h5:=h4 q hq;have h6:q.2∈gs.map (fun p=>((true,p):Bool × (List Value × Ent))):=by rw[h1];exact List.mem_map_of_mem hq
  obtain⟨p,_,hp2⟩:=List.mem_map.1 h6;have h7:q.2.1=true:=by rw[<-hp2]
  have h8:=h5.2.2;rw[if_pos h7]at h8;exact h8
theorem OwnS.set6 {α:Type}{r:Rdr α}{t:TypeId}{w:World}{base:Nat}{S:Nat->Prop}{g n cap:Nat}{xs:List α} (h:OwnS r t w base S (.slice (some ⟨g,0,none⟩) n cap) xs) (h6:r.size=6) (i:Nat) (hi:i<xs.length) (u0 u1 u2 u3 u4 u5:Value) (y:α)
  (hc:r.rd w S [u0,u1,u2,u3,u4,u5] y) :
  OwnS r t ((((((w.setCell ⟨g,i*6+0,none⟩ u0).setCell ⟨g,i*6+1,none⟩ u1).setCell ⟨g,i*6+2,none⟩ u2).setCell ⟨g,i*6+3,none⟩ u3).setCell ⟨g,i*6+4,none⟩ u4).setCell ⟨g,i*6+5,none⟩ u5) base S (.slice (some ⟨g,0,none⟩) n cap) (xs.set i y):=by
 obtain⟨gs,rfl,⟨h1,h2⟩,h3,h4⟩:=h;have hS : ¬ S g:=h3 g rfl;have hk:=((((((Keep.refl S w).setCell (p:=⟨g,i*6+0,none⟩) hS u0).setCell (p:=⟨g,i*6+1,none⟩) hS u1).setCell (p:=⟨g,i*6+2,none⟩) hS u2).setCell (p:=⟨g,i*6+3,none⟩) hS u3).setCell (p:=⟨g,i*6+4,none⟩) hS u4).setCell (p:=⟨g,i*6+5,none⟩) hS u5;have hi':i<gs.length:=by simpa using hi
 have hlen : ∀ p∈gs,p.1.length=6:=fun p hp=>h6▸r.len (h4 p hp);rcases h2 with⟨h2,h2'⟩|⟨g',cap',cur,h2,hb,hg,hn,hm,hcs,hx⟩
 ·rw[h2']at hi';exact absurd hi' (Nat.not_lt_zero _)
 ·simp only[Value.slice.injEq,Option.some.injEq,Addr.mk.injEq]at h2;obtain⟨⟨rfl,-⟩,rfl,rfl⟩:=h2;refine⟨gs.set i ([u0,u1,u2,u3,u4,u5],y),?_,⟨?_,.inr ⟨g,cap,_,?_,hb,zu (zu (zu (zu (zu (zu hg u0) u1) u2) u3) u4) u5,?_,hm,?_,?_⟩⟩,h3,fun p hp=>?_⟩
  ·rw[List.map_set]
  ·rw[zg6 gs _ u0 u1 u2 u3 u4 u5 hlen i hi'];simpa using h1
  ·rw[List.length_set]
  ·rw[List.length_set];exact hn
  ·simpa using hcs
  ·rw[zg6 gs _ u0 u1 u2 u3 u4 u5 hlen i hi',List.length_set];simp only[Array.toList_setIfInBounds,zr5];rw[hx]
  ·rcases List.mem_or_eq_of_mem_set hp with hp|rfl
   ·exact Rdr.kept (h4 p hp) hk
   ·exact Rdr.kept hc hk
theorem zfp (w:World) (p:Addr) (v:Value):(w.setCell p v).heap.size=w.heap.size:=by simp[World.setCell]
theorem zwo (w:World) (g:Nat) (ρ:Nat->Option Rol) (ns nk:Nat) (x:Ix) (h:IxAt w g ρ ns nk x) (hall:x.all.length<=1000000) (hfl : ∀ e∈x.all,e.2.2.2.2.2.length<=1000000) (p q:Nat) (hp:p<=9223372036854775807) (hq:q<=9223372036854775807) :
  Calls Tryz.prog 74 #[.pointer (some ⟨g,0,none⟩),.int .i64 p,.int .i64 q] w fun e w'=>∃ v S',e = .returned (.tuple #[v,.int .i64 0])/\OwnS rEntO 100 w' w.heap.size S' v ((x.all.drop p).take q)/\(∀ k,S' k->w.heap.size<=k/\k<w'.heap.size)/\Ext w w':=by
 obtain⟨va,gs,gk,ms,mk,h⟩:=h;have c0:=h.c0;have HA:=hid (h.all.rd.mono (S':=fun k=>k<w.heap.size) fun k _ hk=>hk);have hgw:=h.lt g (by rw[h.rg];simp);clear h;have hne : ¬ g=w.heap.size:=by omega
 have hne' : ¬ w.heap.size=g:=by omega
 have hx1:=(Ext.refl w).alloc (.cells #[] 100);have c01:=hx1.cellS c0;have HX1:=hid hx1;have HM:=OwnS.stmade rHalf 100 w (fun _=>False) (fun h=>h);clear hx1;have hmk:=fun w=>zvm w;obtain⟨L,hL⟩ : ∃ L,L=(x.all.drop p).take q:=⟨_,rfl⟩
 have hLf : ∀ e∈L,e.2.2.2.2.2.length<=1000000:=fun e he=>hfl e (by rw[hL]at he;exact List.mem_of_mem_drop (List.mem_of_mem_take he));have hLl:L.length<=1000000:=by rw[hL,List.length_take,List.length_drop];omega
 have HLF:=hid hLf;rw[<-hL];have HLE:=hid hL;clear hL hfl hLf;go_enter Tryz.func74,Tryz.ntmps74;go_wp2_with fail;refine(ztf _ (fun k=>k<w.heap.size) va x.all (HA.out.ext HX1.out) p q hp hq).mono ?_;rintro e w1 ⟨v1,rfl,hv1,rfl⟩;rw[<-HLE.out]at hv1;obtain⟨a1,n1,rfl,-,-⟩:=hv1.slice;obtain⟨gs1,hgs1,hsrc,hg1⟩:=hv1.stsrc Tryz.underlying47;have HSRC:=hid hsrc;have HG1:=hid hg1;have HGS:=hid hgs1;have HLEN:=hid (show gs1.length=L.length by rw[hgs1,List.length_map]);clear hv1 hsrc hg1 hgs1 hmk;go_wp2_with (at_builtin;go_must (refine vw rHalf rfl _ _ _ _ _ _ 80 rfl Tryz.underlying47 zhu rfl w.heap.size _ _ [] rfl HM _ (zdy gs1) rfl ?_ ?_ (fun _ hk=>hk.elim) ?_ ?_ (by simp) ?_;(· rw[zeu,zl2];exact HSRC.out);(· intro p hp;exact zs2 HG1.out p hp);(· rw[zeu,HLEN.out];simp;omega);(· rw[zeu,HLEN.out];simp;omega);intro v8 w8 k1 k2 k3;rw[List.nil_append,zqn]at k1;have HX8:=hid (HX1.out.grown k2 (fun k hk=>by cases hk;exact Nat.le_refl _));obtain⟨a8,c8,rfl⟩:=k1.slice;rw[zau,HLEN.out]at k1 ⊢;have HO8:=hid k1;have HS8:=hid (show w.heap.size+1<=w8.heap.size from by have:=k2.size;simpa using this);clear k1 k2 k3))
 go_loopw [9,32] (fun u9 u32 wr=>∃ i:Nat,u32 = .int .i64 i/\i<=L.length/\OwnS rHalf 100 wr w.heap.size (fun k=>(Value.slice a8 L.length c8).ownBlock≠some k/\w.heap.size<=k/\k<wr.heap.size) (.slice a8 L.length c8) (half gs1 i)/\w.heap.size+1<=wr.heap.size/\Ext w wr) (fun _ u32 _=>L.length-(intOf u32).toNat);case atStart=>exact⟨0,rfl,Nat.zero_le _,HO8.out.widen (fun k hk hl=>hk.elim) (fun k e hk=>hk.1 e),HS8.out,HX8.out⟩
 case round=>
  obtain⟨wo,rfl⟩ : ∃ wo:World,wo=wr:=⟨_,rfl⟩
  obtain⟨i,rfl,hi,ho,hsz,hx⟩:=hrel;have hgl:=HLEN.out;have HX:=hid hx;by_cases hlt:i<L.length
  ·have hi1:i<gs1.length:=by omega
   obtain⟨g8,cc,cur,e,hb8,hg8,hS8,hr8⟩:=ho.headS (by rw[zau];omega);obtain⟨g9,o9,cap9,cs,e9,-,-,hcs,hcc,hrd0⟩:=ho.rd.at i (by rw[zau];omega);rw[zs5 gs1 i hi1]at hrd0;have hcs1:=hrd0.2.2;simp only[Bool.false_eq_true,if_false]at hcs1;have hrd:=rEnt.keep (w':=wo) (S':=fun k=>k<w.heap.size) (HG1.out gs1[i] (List.getElem_mem hi1)) (by simpa using hsz) (fun k hk hl=>(Below.block hx k hk).trans (Below.block HX1.out k hk).symm) (fun k hk _=>hk);rw[<-hcs1]at hrd;rw[show gs1[i].2=L[i] from by simp only[HGS.out,List.getElem_map]]at hrd;rw[zau,hgl]at e e9;clear hrd0 hcs1;simp only[Value.slice.injEq]at e e9;obtain⟨rfl,-,rfl⟩:=e;simp only[Option.some.injEq,Addr.mk.injEq]at e9;obtain⟨⟨rfl,rfl,-⟩,-,-⟩:=e9;obtain⟨fv,rfl,hf⟩:=zgv hrd;have b0:=hcc 0 _ rfl;have b1:=hcc 1 _ rfl;have b2:=hcc 2 _ rfl;have b3:=hcc 3 _ rfl;have b4:=hcc 4 _ rfl;have b5:=hcc 5 _ rfl;simp only[Nat.zero_add,Nat.add_zero,show rHalf.size=6 from rfl]at b0 b1 b2 b3 b4 b5;have HLFi:=hid (HLF.out L[i] (List.getElem_mem hlt));generalize hent:L[i]=ent at b0 b1 b2 b3 b4 b5 hf hrd HLFi;have HEN:=hid hent;have HF:=hid hf;have HRD:=hid hrd;have HO:=hid ho;have HR8:=hid hr8;clear hcc hf hrd ho hr8 hx hent;go_wp2_with fail;refine(zon wo _ _ _ _ _ _ fv _ HF.out HLFi.out).mono ?_;rintro e w2 ⟨fv',rfl,hf',hx2⟩;obtain⟨fa',fc',rfl,-,-⟩:=hf'.slice;have HF2:=hid hf';have HX2:=hid hx2;have hr82:=(Below.block hx2 g8 hg8).trans HR8.out;replace b0:=hx2.cellS b0;replace b1:=hx2.cellS b1;replace b2:=hx2.cellS b2;replace b3:=hx2.cellS b3;replace b4:=hx2.cellS b4;replace b5:=hx2.cellS b5;have f0:=zc hr82 (i*6);have f1:=zc hr82 (i*6+1);have f2:=zc hr82 (i*6+2);have f3:=zc hr82 (i*6+3);have f4:=zc hr82 (i*6+4);have f5:=zc hr82 (i*6+5);clear hf' hx2 hr82;go_wp2_with fail;go_roundw;case rel=>
    have hbk : ∀ k,(Value.slice (some ⟨g8,0,none⟩) L.length c8).ownBlock=some k->g8=k:=fun k e=>by
     simpa[Value.ownBlock] using e
    have ho2:OwnS rHalf 100 w2 w.heap.size (fun k=>(Value.slice (some ⟨g8,0,none⟩) L.length c8).ownBlock≠some k/\w.heap.size<=k/\k<w2.heap.size) (.slice (some ⟨g8,0,none⟩) L.length c8) (half gs1 i):=
     (HO.out.ext HX2.out).widen (fun k hk _=>⟨hk.1,hk.2.1,Nat.lt_of_lt_of_le hk.2.2 HX2.out.size⟩) (fun k e hk=>hk.1 e)
    have hxw:=HX.out.size;have hput:=ho2.set6 rfl i (by rw[zau];omega) (.int .i64 ent.1) (.string ent.2.1) (.int .i64 ent.2.2.1) (.string ent.2.2.2.1) (.int .i64 ent.2.2.2.2.1) (.slice fa' ent.2.2.2.2.2.length fc') (true,(gs1[i].1,ent)) (zs4 (zn2 HRD.out (HF2.out.mono fun k hk hl=>⟨fun e=>by have:=hbk k e;have h2:wo.heap.size<=k:=hk;omega,by have h2:wo.heap.size<=k:=hk;omega,hl⟩)));simp only[Nat.add_zero]at hput;rw[zs3 gs1 i hi1 ent (by rw[HEN.out.symm];simp only[HGS.out,List.getElem_map])]at hput;refine⟨i+1,by go_num,by omega,hput.widen (fun k hk hl=>⟨hk.1,hk.2.1,hl⟩) (fun k e hk=>hk.1 e),by have:=HX2.out.size;simp only[zfp];omega,?_⟩;exact((((((HX.out.trans HX2.out).setCell (p:=⟨g8,_,none⟩) hb8 _).setCell (p:=⟨g8,_,none⟩) hb8 _).setCell (p:=⟨g8,_,none⟩) hb8 _).setCell (p:=⟨g8,_,none⟩) hb8 _).setCell (p:=⟨g8,_,none⟩) hb8 _).setCell (p:=⟨g8,_,none⟩) hb8 _
   case measure=>simp[intOf];omega
  ·obtain rfl:i=L.length:=by omega
   have hend:=zqo (hgl▸ho);rw[<-HGS.out,hgl]at hend;have HEND:=hid hend;clear hend ho hx;go_wp2_with fail;refine bodyPost_ret (v:=.tuple #[.slice a8 L.length c8,.int .i64 0]) (by simp[results,Tryz.results74,go_sem]) rfl ⟨_,_,rfl,HEND.out,fun k hk=>⟨hk.2.1,hk.2.2⟩,HX.out⟩
end
section
open Go.RowKit Go.Maps
theorem PutBEnd.open {w:World}{b:List UInt8}{x:Bat}{e:Ending}{w':World} (h:PutBEnd w b x e w') :
  ∃ v',e = .returned (.tuple #[v',.int .i64 (((putB x).2:Nat):Int)])/\((putB x).2=0->OwnB w' w.heap.size v' (b++(putB x).1))/\((putB x).2≠0->v' = .slice none 0 0)/\Ext w w':=by
 obtain⟨h1,h2,h3⟩:=h;by_cases hc:(putB x).2=0
 ·obtain⟨v',e1,e2⟩:=h1 hc;exact⟨v',by rw[hc];exact e1,fun _=>e2,fun e=>absurd hc e,h3⟩
 ·exact⟨.slice none 0 0,h2 hc,fun e=>absurd e hc,fun _=>rfl,h3⟩
theorem zm3 {w:World}{S:Nat->Prop}{ev:Value}{l:List Ev} (h:RdS rE w S ev l) : ∀ e∈l,evI e:=by
 intro e he f hf;obtain⟨i,hi,rfl⟩:=List.getElem_of_mem he;obtain⟨g,o,cap,fv,-,-,-,-,-,-,-,-,h2⟩:=h.atE i hi;obtain⟨j,hj,rfl⟩:=List.getElem_of_mem hf;obtain⟨g',o',cap',-,-,-,-,-,-,-,-,h3,-⟩:=h2.atF j hj;exact h3
theorem zst {W:World}{S:Nat->Prop}{k:Nat}{kd:UInt8}{u:Value}{data:List UInt8}{t:TypeId} (h:W.heap[k]? = some (.cells #[.int .u8 ((kd.toNat:Nat):Int),u] t (0,0))) (hk:S k) (hu:RdB W u data) (hS : ∀ j,u.ownBlock=some j->S j) :
  RdS rSf W S (.slice (some ⟨k,0,none⟩) 1 1) [(kd,data)]:=by
 refine⟨_,[([.int .u8 ((kd.toNat:Nat):Int),u],(kd,data))],rfl,rfl,⟨_,_,rfl,Nat.le_refl _,by simp[maxLen],rfl,fun _=>⟨k,0,rfl,(blt h),fun j hj=>?_⟩⟩,fun _ j hj=>?_,fun p hp=>?_⟩
 ·rw[Nat.zero_add];exact(cell_of_row _ k j _ _ _ h).trans (by simp[cellsOf])
 ·simp only[Value.ownBlock,Option.some.injEq]at hj;exact hj▸hk
 ·obtain rfl:=List.mem_singleton.1 hp;exact⟨[.int .u8 ((kd.toNat:Nat):Int)],[u],rfl,rfl,u,rfl,hu,fun _ j hj=>hS j hj⟩
def encA (a:Apd):Value:=.agg #[.int .i64 a.1,.int .i64 a.2.1,.int .i64 a.2.2.1,.bool a.2.2.2]
section
variable {w W W':World}{q g:Nat}{ρ:Nat->Option DRol}{N:Nat}{d:Dv}{n:Nat}{bs:List Bat}{U:Nat->Prop}
theorem StP.fsAt {gl:Nat}{C:Int->Bk}{φ:Nat->Option FRol}{gf gc ga gm:Nat}{gt:Option Nat}{gn:Nat}{qn:Option Nat}{lv:Value}{gs:Nat}{fv zv:Value}{Sd:Nat->Prop}{gx:Nat}{T:Nat->Prop}
  (h:StP w W q g ρ N d n bs U gl C φ gf gc ga gm gt gn qn lv gs fv zv Sd gx T):FsAt w W g ρ N d gl n C (fun s=>FsHome s (filB bs)) φ gf (kB bs):=
 ⟨h.log.putG (by omega) fun s hs=>h.home.cur hs,⟨_,_,_,_,_,_,_,h.mem⟩,h.dis⟩
theorem zv4 (h:StAt w W q g ρ N d n bs U) :
  Calls Tryz.prog 22 #[.pointer (some ⟨q,0,none⟩)] W fun e W'=>e = .returned (.int .i64 0)/\W=W':=by
 obtain⟨gl,C,φ,gf,gc,ga,gm,gt,gn,qn,lv,gs,fv,zv,Sd,gx,T,h⟩:=h;have HF:=hid (zd6 h.fsAt ⟨#[]⟩ (by decide) (.inl (by decide)));have c0:W.cell? ⟨q,0,none⟩=some (.pointer (some ⟨gf,0,none⟩)):=(cr 0 h.head)
 clear h;go_enter Tryz.func22,Tryz.ntmps22;go_wp2_with fail;refine HF.out.mono ?_;rintro e w1 ⟨rfl,rfl⟩;go_wp2_with fail;go_ret;exact⟨rfl,rfl⟩
theorem zk9 (h:StAt w W q g ρ N d n bs U) (hl:bs.length<=4) :
  Calls Tryz.prog 19 #[.pointer (some ⟨q,0,none⟩)] W fun e W'=>e = .returned (.int .i64 ((ixB bs).all.length:Int))/\W=W':=by
 obtain⟨gl,C,φ,gf,gc,ga,gm,gt,gn,qn,lv,gs,fv,zv,Sd,gx,T,h⟩:=h;have hle:=zat bs;have HF:=hid (zwe W T gx (ixB bs) h.ix (by omega));have c0:W.cell? ⟨q,2,none⟩=some (.pointer (some ⟨gx,0,none⟩)):=(cr 2 h.head)
 clear h hle;go_enter Tryz.func19,Tryz.ntmps19;go_wp2_with fail;refine HF.out.mono ?_;rintro e w1 ⟨rfl,rfl⟩;go_wp2_with fail;go_ret;exact⟨rfl,rfl⟩
theorem zx3 (h:StAt w W q g ρ N d n bs U) (hl:bs.length<=4) :
  Calls Tryz.prog 33 #[.pointer (some ⟨q,0,none⟩),.int .i64 0,.int .i64 1073741824] W fun e W'=>∃ v S',e = .returned (.tuple #[v,.int .i64 0])/\OwnS rEntO 100 W' W.heap.size S' v (ixB bs).all/\(∀ k,S' k->W.heap.size<=k/\k<W'.heap.size)/\Ext W W':=by
 obtain⟨gl,C,φ,gf,gc,ga,gm,gt,gn,qn,lv,gs,fv,zv,Sd,gx,T,h⟩:=h;have hle:=zat bs;have hall:(ixB bs).all.length<=1000000:=by omega
 have hfl:=h.good.reach.flds;have HF:=hid (show Calls Tryz.prog 74 #[.pointer (some ⟨gx,0,none⟩),.int .i64 0,.int .i64 1073741824] W fun e w'=>∃ v S',e = .returned (.tuple #[v,.int .i64 0])/\OwnS rEntO 100 w' W.heap.size S' v (ixB bs).all/\(∀ k,S' k->W.heap.size<=k/\k<w'.heap.size)/\Ext W w' by
  obtain⟨ρx,h1,h2⟩:=h.ix;have h3:=zwo W gx ρx _ _ (ixB bs) h1 hall (fun e he=>by have:=hfl e he;omega) 0 1073741824 (by omega) (by omega);rw[List.drop_zero,List.take_of_length_le (by omega)]at h3;exact h3)
 have c0:W.cell? ⟨q,2,none⟩=some (.pointer (some ⟨gx,0,none⟩)):=(cr 2 h.head)
 clear h hle hall hfl;go_enter Tryz.func33,Tryz.ntmps33;go_wp2_with fail;refine HF.out.mono ?_;rintro e w1 ⟨v,S',rfl,h1,h2,h3⟩;go_wp2_with fail;refine bodyPost_ret (v:=.tuple #[v,.int .i64 0]) (by simp[results,Tryz.results33,go_sem]) rfl ?_;exact⟨v,S',rfl,h1,h2,h3⟩
end
end
end Go.Proofs.YtnadlnmclameiaaGreatDoor
