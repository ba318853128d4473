/- part 30 -/
import Derived.Test.YtnadlnmclameiaaGreatDoorTS29
import Derived.WideKeyEntry
set_option maxRecDepth 100000
set_option maxHeartbeats 8000000
set_option linter.all false
namespace Go.Proofs.YtnadlnmclameiaaGreatDoor
section
open Go.RowKit Go.Maps Go.ChangeMaps
theorem zqq {w:World}{gm:Nat} (h:w.ownsMap Tryz.prog 9 rawE gm 1 (ym none)) (g:Nat) :
  ∃ v0 st w1,(Instr.mapEntry 148 (.map (some gm)) (.string seg0)).run Tryz.prog w = .ok (.tuple #[v0,st]) w1/\Keep (fun j=>j≠gm) w w1/\
   ∃ w2,(Instr.entryStore 148 (.map (some gm)) st (.pointer (some ⟨g,0,none⟩))).run Tryz.prog w1 = .ok () w2/\w2.ownsMap Tryz.prog 9 rawE gm 1 (ym (some g))/\Keep (fun j=>j≠gm) w w2:=by
 obtain⟨w3,hrun,hf3,hmt⟩:=(jp h).store (t:=148) kStr.law Tryz.underlying148 (by simp[maxLen]) (kStr.key (x:=seg0) (show seg0.size<=maxLen by decide)) (d:=.held (.pointer (some ⟨g,0,none⟩))) (ps:=[]) rfl;obtain⟨es,clock,hb,F,-,-⟩:=h;obtain⟨v0,st,es1,clock1,h1,-,h2⟩:=WideElems.entry_then_store (Go.WideMaps.string_law Tryz.underlying9) (t:=148) Tryz.underlying148 zpc hb F (kStr.key (x:=seg0) (show seg0.size<=maxLen by decide));obtain⟨es',clock',h3,h4⟩:=h2 _ (.pointer (some ⟨g,0,none⟩)) (Go.ChangeMaps.heap_setBlock_same hb _);refine⟨v0,_,_,h1,⟨rfl,rfl,rfl,by simp[setBlock],fun i hi _=>heap_setBlock_other hb _ hi⟩,_,h3,?_⟩;have hgl:gm<w.heap.size:=(blt hb)
 have e1:Go.ChangeMaps.setBlock (setBlock w gm (.map es1 clock1)) gm (.map es' clock')=w3:=by
  have h5:(Instr.mapUpdate 148 (.map (some gm)) (.string seg0) (.pointer (some ⟨g,0,none⟩))).run Tryz.prog w = .ok () (setBlock w gm (.map es' clock')):=h4;have h6:(Instr.mapUpdate 148 (.map (some gm)) (.string seg0) (.pointer (some ⟨g,0,none⟩))).run Tryz.prog w = .ok () w3:=hrun;rw[h5]at h6;have h7:setBlock w gm (.map es' clock')=w3:=by injection h6
  rw[<-h7];simp[setBlock]
 rw[e1];exact⟨hf3,(zl hmt.grown).mono fun j hj _ e=>hj (Option.some.inj e)⟩
def nbD:Option Nat->Nat
 | none=>0
 | some s=>nbN s
theorem zqf (o:Option Nat):(qp o).length<=1:=by cases o <;> simp[qp]
def vo (o:Option Nat):List UInt8:=(dirB o).drop (dirH o).length
theorem zvx (o:Option Nat):dirB o=magicF++(putU (qp o).length++vo o):=by
 have h : ∃ t,dirB o=dirH o++t:=by
  cases o with
  | none=>exact⟨_,rfl⟩
  | some s=>exact⟨putT segN++xu (s:Nat) (locs (nbN s))++List.replicate (8192-(dirL (some s)).length) 0,by unfold dirB;rw[zbd];simp only[List.append_assoc]⟩
 obtain⟨t,ht⟩:=h;have hr:vo o=t:=by unfold vo;rw[ht,List.drop_left]
 rw[hr,ht];unfold dirH;rw[List.append_assoc]
theorem znz (s:Nat) : ∃ t,vo (some s)=putT segN++(xu (s:Nat) (locs (nbN s))++t):=by
 refine⟨List.replicate (8192-(dirL (some s)).length) 0,?_⟩;unfold vo dirB;rw[zbd,List.append_assoc,List.append_assoc,List.drop_left]
theorem zh2 : ∀ q,q<29->∀ n,n<28->(qw q)[n]? = some (decide (n<q)):=by decide +kernel
theorem zpd : ∀ q,q<28->(qw q).set q true=qw (q+1):=by decide +kernel
theorem zvg {W:World}{S:Nat->Prop}{k:Nat}{x1 x2:Int}{t:TypeId} (h:W.heap[k]? = some (.cells #[.int .i64 x1,.int .i64 x2] t (0,0))) (hk:S k) (h1 : -9223372036854775808<=x1/\x1<=9223372036854775807) (h2 : -9223372036854775808<=x2/\x2<=9223372036854775807) :
  RdS rRn W S (.slice (some ⟨k,0,none⟩) 1 1) [(x1,x2)]:=by
 refine⟨_,[([.int .i64 x1,.int .i64 x2],(x1,x2))],rfl,rfl,⟨_,_,rfl,Nat.le_refl _,by simp[maxLen],rfl,fun _=>⟨k,0,rfl,(blt h),fun j hj=>?_⟩⟩,fun _ j hj=>?_,fun p hp=>?_⟩
 ·rw[Nat.zero_add];exact(cell_of_row _ k j _ _ _ h).trans (by simp[cellsOf])
 ·simp only[Value.ownBlock,Option.some.injEq]at hj;exact hj▸hk
 ·obtain rfl:=List.mem_singleton.1 hp;exact⟨[.int .i64 x1],[.int .i64 x2],rfl,⟨rfl,h1⟩,rfl,h2⟩
theorem zw4 {dir:Option Nat} (h : ∀ s,dir=some s->0<s/\s<=8192):nbD dir<=16:=by
 cases dir with
 | none=>exact Nat.zero_le _
 | some s=>exact zah (h s rfl).2
section
variable {W W':World}{φ:Nat->Option FRol}{gf gl:Nat}{C:Int->Bk}{k:FsS}{gc ga gm:Nat}{gt:Option Nat}{gn:Nat}{qn:Option Nat}{lv:Value}
theorem FsP.fileGet (h:FsP W φ gf gl C k gc ga gm gt gn qn lv) {s g:Nat}{q:Option Nat} (hφ : ∀ j,(j=g\/q=some j)->φ j=none) (hn:NodeAt W' g q (s:Int) (locs (nbN s))) (hf:W'.ownsMap Tryz.prog 9 rawE gm 1 (ym (some g))) (hk:Keep (fun j=>j≠gm) W W') :
  FsP W' (rel φ (fun j=>j=g\/q=some j) .node) gf gl C { k with sz:=some s } gc ga gm gt g q lv:=by
 have hT1 : ∀ j,(j=g\/q=some j)->φ j=none\/φ j=some .node:=fun j hj=>.inl (hφ j hj);have old : ∀ {j:Nat}{r:FRol},φ j=some r->rel φ (fun j=>j=g\/q=some j) .node j=some r:=fun {j r} hj=>zb0 hT1 hj;have hne : ∀ {j:Nat}{r:FRol},φ j=some r->r≠ .files->j≠gm:=fun {j r} hj hr e=>by subst e;rw[h.rm]at hj;exact hr (Option.some.inj hj).symm
 exact {
  head:=(hk.block gf (hne h.rf (by simp)) h.glt).trans h.head
  rf:=old h.rf
  cache:=(h.cache.keep (hk.mono fun j hj _=>hne hj (by simp))).mono fun j hj _=>old hj
  alloc:=MapAt.mono' (h.alloc.keep (hk.mono fun j hj _=>hne hj (by simp))) fun j hj=>old hj
  files:=hf
  rm:=old h.rm
  node:=fun s hs=>by
   cases hs;exact⟨hn,qv (.inl rfl),fun j hj=>qv (.inr hj)⟩
  laid:=Rd.carry0 h.laid hk.size fun _ j hj hl=>hk.block j (hne (h.rl j hj) (by simp)) hl
  rl:=fun j hj=>old (h.rl j hj)
  lt:=fun j hj=>by
   rcases y7 hj with (hj|hj)|hj
   ·subst hj;exact hn.lt
   ·obtain⟨vr,-,-,-,-,h5,-⟩:=hn;exact h5 j hj
   ·exact Nat.lt_of_lt_of_le (h.lt j hj) hk.size }
end
def zuh (W wr:World) (φ:Nat->Option FRol) (gf gl:Nat) (H:Int->Bk) (gc ga gm:Nat) (lv:Value) (dir:Option Nat) (gu:Nat):Prop:=
 ∃ φi gni qni,FsP wr φi gf gl H ⟨dir,0,0,0,dir⟩ gc ga gm none gni qni lv/\OwnS rBo 4 wr gu (fun _=>False) (.slice (some ⟨gu,0,none⟩) 28 28) (qw (nbD dir))/\FNew φ φi W/\Keep (fun j=>φ j=none) W wr/\φi gu=none/\W.heap.size<=gu
section
variable {W:World}{φ:Nat->Option FRol}{gf gl:Nat}{H:Int->Bk}{gc ga gm:Nat}{gn:Nat}{qn:Option Nat}{lv:Value}
theorem zt4 (dir:Option Nat) (h:FsP W φ gf gl H ⟨none,0,0,0,dir⟩ gc ga gm none gn qn lv) (hs : ∀ s,dir=some s->0<s/\s<=8192) :
  Calls Tryz.prog 64 #[.pointer (some ⟨gf,0,none⟩)] W fun e W'=>e = .returned (.bool true)/\∃ φ' gn' qn',FsP W' φ' gf gl H ⟨dir,nbD dir,nbD dir,0,dir⟩ gc ga gm none gn' qn' lv/\FNew φ φ' W/\Keep (fun j=>φ j=none) W W':=by
 have H0:=hid h;have HS:=hid hs;have hkc:=kcFs W;have x1:Ext W (W.alloc (.cells #[.int .u8 102,.int .u8 105,.int .u8 108,.int .u8 101,.int .u8 115] 5 (5,6))):=(Ext.refl _).alloc _;obtain⟨a0,c0,hlv,hc1,hc2,-⟩:=id h.laid;have c5:W.cell? ⟨gf,5,none⟩=some lv:=(cr 5 h.head)
 rw[hlv]at c5;have HLV:=hid hlv;have hdl:=vk dir;have hdq:=zvx dir;have HDQ:=hid hdq;have HDL:=hid hdl;have HRL:=hid (show RdB (W.alloc (.cells #[.int .u8 102,.int .u8 105,.int .u8 108,.int .u8 101,.int .u8 115] 5 (5,6))) (.slice a0 (dirB dir).length c0) (dirB dir) by rw[<-hlv];exact h.laid.ext x1);have HX1:=hid x1;have c2:(W.alloc (.cells #[.int .u8 102,.int .u8 105,.int .u8 108,.int .u8 101,.int .u8 115] 5 (5,6))).cell? ⟨gf,2,none⟩=some (.pointer (some ⟨ga,0,none⟩)):=Ext.cellS x1 ((cr 2 h.head));rw[hdl]at c5 hc1;clear h hs hdl hdq hlv x1;go_enter Tryz.func64,Tryz.ntmps64;go_wp2_with fail;rw[<-HDL.out];refine(jq _ a0 c0 _ (dirB dir) magicF HRL.out (zer W) (by rw[HDL.out];omega)).mono ?_;rintro e w1 ⟨rfl,he⟩;rw[if_pos ⟨by rw[HDL.out];decide,by rw[HDQ.out,show magicF.length=5 from rfl];rfl⟩]at he;obtain⟨rfl,hr1⟩:=he;obtain⟨L,hL⟩ : ∃ L,L=(qp dir).length:=⟨_,rfl⟩
 have hL1:L<=1:=by rw[hL];exact zqf dir
 have hdr:(dirB dir).drop magicF.length=putU L++vo dir:=by rw[HDQ.out,List.drop_left,hL]
 rw[hdr]at hr1;have hlen:(putU L++vo dir).length=8187:=by rw[<-hdr,List.length_drop,HDL.out];rfl
 have hku:=zq L;obtain⟨kU,hkU⟩ : ∃ kU,kU=(putU L).length:=⟨_,rfl⟩
 obtain⟨a1,ha1⟩ : ∃ a1,a1=yq a0 c0 magicF.length 1:=⟨_,rfl⟩
 obtain⟨c1,hc1'⟩ : ∃ c1,c1=c0-magicF.length:=⟨_,rfl⟩
 have hm5:magicF.length=5:=rfl;rw[<-ha1,<-hc1',HDL.out,show 8192-magicF.length=8187 from rfl]at hr1;rw[<-ha1,<-hc1',HDL.out,show 8192-magicF.length=8187 from rfl];obtain⟨w1,hw1⟩ : ∃ w1,w1=(W.alloc (.cells #[.int .u8 102,.int .u8 105,.int .u8 108,.int .u8 101,.int .u8 115] 5 (5,6))):=⟨_,rfl⟩
 rw[<-hw1]at hr1 HX1 c2 ⊢;have HR1:=hid hr1;have hui:=qi L (by omega) (vo dir);rw[<-hkU]at hui;have HUI:=hid hui;have HLEN:=hid hlen;have HL:=hid hL;have HKU:=hid hkU;have hc18:8187<=c1:=by omega
 have hcx:c1<=9223372036854775807:=by unfold maxLen at hc2;omega
 have hka:kU<=8187:=by have:=hlen;rw[List.length_append]at this;omega
 have hkb:kU<=20:=by omega
 clear hL hdr hr1 hku hkU ha1 hc1' hui hlen hw1 hkc c5 hm5 HRL HDQ hc1 hc2;go_wp2_with fail;refine(yv _ _ _ HR1.out).mono ?_;rintro e w2 ⟨rfl,rfl⟩;rw[HUI.out];dsimp only;have hg64 : ¬ (64:Int)<(L:Int):=by omega
 have hne : ¬ c1=kU:=by omega
 have c1a:w1.cell? ⟨gf,1,none⟩=w1.cell? ⟨gf,1,none⟩:=rfl;have HM1:=hid (H0.out.ext HX1.out);have e2:w1.cell? ⟨gf,2,none⟩=some (.pointer (some ⟨ga,0,none⟩)):=c2;have hmk : ∀ W,(Instr.makeSlice 199 (.int .i64 28) (.int .i64 28)).run Tryz.prog W = .ok (.slice (some ⟨W.heap.size,0,none⟩) 28 28) (W.alloc (.cells (x6 28) 4)):=fun W=>zud 28 (by omega) W;go_wp2_with fail;refine(zk6 _ _ ga _ _ HM1.out.alloc).mono ?_;rintro e w2 ⟨rfl,rfl⟩;rw[jy 0 (by omega)];go_wp2_with fail;obtain⟨gu,hgu⟩ : ∃ gu,gu=w1.heap.size:=⟨_,rfl⟩
 have hnew:=heap_alloc_new w1 (.cells (x6 28) 4);have hx2:Ext w1 (w1.alloc (.cells (x6 28) 4)):=(Ext.refl w1).alloc _;rw[<-hgu]at hnew ⊢;generalize (w1.alloc (.cells (x6 28) 4))=w2 at hnew hx2 ⊢;have hou:=zd2 hnew (by omega) gu (Nat.le_refl _);rw[<-zgp]at hou;have hrln:(vo dir).length=8187-kU:=by have:=HLEN.out;rw[List.length_append,<-HKU.out]at this;omega
 have hrest:RdB w2 (.slice (Option.map (fun x=>x.add kU) a1) (8187-kU) (c1-kU)) (vo dir):=by
  have h1:=RdB.cut (xs:=putU L++vo dir) (by rw[HLEN.out];exact HR1.out.ext hx2) kU 8187 hka (by rw[HLEN.out];exact Nat.le_refl _);rw[HKU.out,List.drop_left,<-HKU.out]at h1;have h2:(vo dir).length=8187-kU:=by have:=HLEN.out;rw[List.length_append,<-HKU.out]at this;omega
  rw[<-h2,List.take_length,h2]at h1;unfold yq at h1;rw[if_neg hne,Nat.mul_one]at h1;exact h1
 have hx02:Ext W w2:=HX1.out.trans hx2;have hgu0:W.heap.size<=gu:=by rw[hgu];exact HX1.out.size
 have hfin0:L=0->zuh W w2 φ gf gl H gc ga gm lv dir gu:=fun e=>by
  have hd:dir=none:=by
   cases dir with
   | none=>rfl
   | some s=>have:=HL.out;rw[e]at this;simp[qp]at this
  subst hd;refine⟨φ,gn,qn,H0.out.ext hx02,hou,FNew.refl _ _,hx02.keep _,?_,hgu0⟩;by_cases e:φ gu=none
  ·exact e
  ·have:=H0.out.lt gu e;omega
 have HF0:=hid hfin0;have HOU:=hid hou;have HRS:=hid hrest;have HX02:=hid hx02;have HG0:=hid hgu0;have hguw:gu<w2.heap.size:=(blt hnew)
 clear hfin0 hou hrest hx02 hgu0 hnew hx2 hgu hmk c2 e2 c1a;obtain⟨a2,ha2⟩ : ∃ a2,a2=Option.map (fun x=>x.add kU) a1:=⟨_,rfl⟩
 obtain⟨c2,hc2⟩ : ∃ c2,c2=c1-kU:=⟨_,rfl⟩
 obtain⟨n2,hn2⟩ : ∃ n2,n2=8187-kU:=⟨_,rfl⟩
 rw[<-ha2,<-hc2,<-hn2]at HRS ⊢;have HRLN:=hid (hrln.trans hn2.symm);have HN2:=hid (show (n2<=8187/\8000<=n2)/\n2<=c2/\c2<=9223372036854775807 by omega);clear ha2 hc2 hn2 hrln;go_wp2_with fail;go_loopw [3,55] (fun u3 u55 wr=>∃ (i:Nat),u55 = .int .u64 i/\i<=L/\(i=0->wr=w2/\u3 = .slice a2 n2 c2)/\(i=L->zuh W wr φ gf gl H gc ga gm lv dir gu)) (fun _ u55 _=>L-(intOf u55).toNat);case atStart=>exact⟨0,rfl,Nat.zero_le _,fun _=>⟨rfl,rfl⟩,fun e=>HF0.out e.symm⟩
 case round=>
  obtain⟨wo,rfl⟩ : ∃ wo:World,wo=wr:=⟨_,rfl⟩
  obtain⟨i,rfl,hi,h0,hF⟩:=hrel;by_cases hlt:i<L
  ·obtain⟨rfl,rfl⟩:=h0 (by omega);obtain⟨s,rfl⟩ : ∃ s,dir=some s:=by
    cases dir with
    | none=>have:=HL.out;simp[qp]at this;omega
    | some s=>exact⟨s,rfl⟩
   have hi0:i=0:=by omega
   subst hi0;have HL1:=hid (show L=1 by omega);obtain⟨hs0,hs8⟩:=HS.out s rfl;obtain⟨zt,hzt⟩:=znz s;have hl2:(vo (some s)).length=n2:=HRLN.out;obtain⟨⟨hnA,hnB⟩,hnC,hnD⟩:=HN2.out;obtain⟨kT,hkT⟩ : ∃ kT,kT=(putT segN).length:=⟨_,rfl⟩
   have hkT6:kT=6:=hkT;have htf:zyg (vo (some s)) 40=(segN,kT,0):=by
    rw[hzt,hkT];exact zh4 seg0 40 (by decide) (by decide) _
   have hne6 : ¬ c2=kT:=by omega
   have hrs2:RdB wo (.slice (Option.map (fun x=>x.add kT) a2) (n2-kT) (c2-kT)) (xu (s:Nat) (locs (nbN s))++zt):=by
    have h1:=RdB.cut (xs:=vo (some s)) (cap:=c2) (ad:=a2) (by rw[hl2];exact HRS.out) kT n2 (by omega) (by rw[hl2];exact Nat.le_refl _);have h2:((vo (some s)).drop kT).take (n2-kT)=xu (s:Nat) (locs (nbN s))++zt:=by
     rw[List.take_of_length_le (by rw[List.length_drop,hl2];exact Nat.le_refl _),hzt];exact List.drop_left' hkT.symm
    rw[h2]at h1;unfold yq at h1;rw[if_neg hne6,Nat.mul_one]at h1;exact h1
   have hn26:n2-kT=(xu (s:Nat) (locs (nbN s))++zt).length:=by
    have h1:=hl2;rw[hzt,List.length_append,<-hkT]at h1;omega
   have hrf:=zn1 (zdb s (by omega)) zt;obtain⟨nl,hnl⟩ : ∃ nl,nl=(xu (s:Nat) (locs (nbN s))).length:=⟨_,rfl⟩
   rw[<-hnl]at hrf;have hnl2:nl<=n2-kT:=by rw[hn26,List.length_append,hnl];exact Nat.le_add_right _ _
   have hnl100:nl<=100:=by
    have h1:=zav (some s);rw[zbd,List.length_append,<-hnl]at h1;omega
   have hwh:z8 (locs (nbN s))=[((0:Int),(nbN s:Int))]:=by rw[zgo,if_neg (by unfold nbN;omega)]
   have HTF:=hid htf;have HR2:=hid hrs2;have HRF:=hid hrf;have HWH:=hid hwh;have hkT2:kT<=n2:=by omega
   have HKT:=hid hkT6;have hi1:(0:Int)<(L:Int):=by have:=HL1.out;omega
   have hmo:=H0.out.ext HX02.out;have hlk : ∀ w',Ext wo w'->(Instr.lookup 148 (.map (some gm)) (.string seg0) false).run Tryz.prog w' = .ok (.pointer none) w':=fun w' hx=>(hmo.ext hx).look_no rfl;have HLK:=hid hlk;have HMO:=hid hmo;clear htf hrs2 hrf hwh hzt hl2 hn26 hnl hkT hkT6 hlk hmo;go_wp2_with fail;refine(zk8 wo _ _ 40 (by omega) (by omega) HRS.out).mono ?_;rintro e w3 ⟨rfl,rfl⟩;rw[HTF.out];dsimp only;obtain⟨nm,hnm⟩ : ∃ nm:ByteArray,nm=seg0:=⟨_,rfl⟩
   rw[show (⟨segN.toArray⟩:ByteArray)=nm from hnm.symm];rw[<-hnm]at HLK;have HNM:=hid hnm;clear hnm;go_wp2_with fail;refine(znt wo _ _ HR2.out).mono ?_;rintro e w3 ⟨-,hre,hx3⟩;obtain⟨g3,q3,rfl,hn3,-,hg3,hq3⟩:=hre _ _ _ HRF.out;rw[vy]at hn3;have hlk3:=HLK.out w3 hx3;have c32:=(cr 3 (HMO.out.ext hx3).head)
   have HN3:=hid hn3;have HX3:=hid hx3;clear hre hn3 hx3;go_wp2_with fail;refine(zeq w3 g3 q3 _ _ HN3.out (by rw[locs_len];unfold nbN;omega)).mono ?_;rintro e w4 ⟨v4,rfl,ho4,-,hb4⟩;rw[HWH.out]at ho4;obtain⟨g4,cp4,rfl,hg4,hg4',d0,d1,-,-⟩:=ho4.at 0 (by simp);simp only[List.getElem_cons_zero,Nat.zero_mul,Nat.zero_add]at d0 d1;have hx4:Ext wo w4:=HX3.out.trans (Ext.of hb4);have HX4:=hid hx4;have HOU4:=hid (HOU.out.ext hx4);have HN4:=hid (HN3.out.keep ((Ext.of hb4).keep (fun _=>True)) trivial fun _ _=>trivial);have hnb:1<=nbN s/\nbN s<=16:=⟨by unfold nbN;omega,zah hs8⟩
   obtain⟨nb,hnbe⟩ : ∃ nb,nb=nbN s:=⟨_,rfl⟩
   rw[<-hnbe]at hnb d1;have HNB:=hid hnbe;have hz34:w3.heap.size<=w4.heap.size:=hb4.size;have hgu4:gu<w4.heap.size:=by have:=hx4.size;omega
   have hne4:g4≠gu:=by have:=HX3.out.size;omega
   have hl1:([((0:Int),(nbN s:Int))]:List Run).length=1:=rfl;have HD0:=hid (show ∀ w',Keep (fun j=>j≠gu) w4 w'->w'.cell? ⟨g4,0,none⟩=some (.int .i64 0)/\w'.cell? ⟨g4,1,none⟩=some (.int .i64 (nb:Int)) from fun w' hk=>by
    have hb:=hk.block g4 hne4 hg4';exact⟨(World.cell?_of_block hb).trans d0,(World.cell?_of_block hb).trans d1⟩)
   clear ho4 hb4 hx4 hnbe hlk3 c32 d0 d1;rw[hl1];go_wp2_with fail;go_loopw [87] (fun u87 wr5=>∃ (t:Nat),u87 = .int .i64 t/\t<=1/\OwnS rBo 4 wr5 gu (fun _=>False) (.slice (some ⟨gu,0,none⟩) 28 28) (qw (if t=0 then 0 else nb))/\Keep (fun j=>j≠gu) w4 wr5) (fun u87 _=>1-(intOf u87).toNat);case atStart=>exact⟨0,rfl,by omega,HOU4.out,Keep.refl _ _⟩
   case round=>
    obtain⟨w5,rfl⟩ : ∃ w5:World,w5=wr:=⟨_,rfl⟩
    obtain⟨t,rfl,ht,ho5,hk5⟩:=hrel;have HO5:=hid ho5;have HK5:=hid hk5;clear ho5 hk5;by_cases ht0:t=0
    ·subst ht0;obtain⟨d0,d1⟩:=HD0.out w5 HK5.out;go_upto_region 18 with fail;obtain⟨gB,hgB⟩ : ∃ gB,gB=w5.heap.size:=⟨_,rfl⟩
     have hnew:=heap_alloc_new w5 (.cells #[.int .i64 0,.int .i64 (nb:Int)] 209);have hxa:Ext w5 (w5.alloc (.cells #[.int .i64 0,.int .i64 (nb:Int)] 209)):=(Ext.refl w5).alloc _;rw[<-hgB]at hnew ⊢;generalize (w5.alloc (.cells #[.int .i64 0,.int .i64 (nb:Int)] 209))=w6 at hnew hxa ⊢;have q1:w6.cell? ⟨gB,1,none⟩=some (.int .i64 (nb:Int)):=(cr 1 hnew)
     have hoa:=HO5.out.ext hxa;rw[if_pos rfl]at hoa;have hz45:=HK5.out.size;have HNEW:=hid hnew;have HXA:=hid hxa;have HOA:=hid hoa;have hgBu:gB≠gu:=by omega
     clear hnew hxa hoa d0 d1 hgB;go_wp2_with fail;go_loopw [93] (fun u93 wr7=>∃ (j:Nat),u93 = .int .i64 j/\j<=nb/\OwnS rBo 4 wr7 gu (fun _=>False) (.slice (some ⟨gu,0,none⟩) 28 28) (qw j)/\Keep (fun j=>j≠gu) w6 wr7) (fun u93 _=>nb-(intOf u93).toNat);case atStart=>exact⟨0,rfl,by omega,HOA.out,Keep.refl _ _⟩
     case round=>
      obtain⟨w7,rfl⟩ : ∃ w7:World,w7=wr:=⟨_,rfl⟩
      obtain⟨j,rfl,hj,ho7,hk7⟩:=hrel;have hrow:=(hk7.block gB hgBu (blt HNEW.out)).trans HNEW.out;have HO7:=hid ho7;have HK7:=hid hk7;clear hk7;by_cases hjk:j<nb
      ·obtain⟨g1,cc1,cu1,e1,hb1,hg1,hr1⟩:=ho7.head1 (by rw[jy j (by omega)];omega);obtain⟨gx,ox,cx,ex,hgx,-,zx⟩:=ho7.rdT.atB j (by rw[jy j (by omega)];omega);simp only[Value.slice.injEq,Option.some.injEq,Addr.mk.injEq]at ex e1;obtain⟨⟨rfl,rfl,-⟩,-,-⟩:=ex;obtain⟨⟨rfl,-⟩,-,-⟩:=e1;rw[Nat.zero_add]at zx;have hge:=zh2 j (by omega) j (by omega);rw[List.getElem?_eq_getElem (by rw[jy j (by omega)];omega)]at hge;rw[Option.some.inj hge,decide_eq_false (Nat.lt_irrefl j)]at zx;have f1:=zg hr1 j;have q0:w7.cell? ⟨gB,0,none⟩=some (.int .i64 0):=(cr 0 hrow)
       have q1:w7.cell? ⟨gB,1,none⟩=some (.int .i64 (nb:Int)):=(cr 1 hrow)
       have hj28:j<28:=by omega
       clear hge hgx hb1 hg1 hr1 ho7 hrow;go_wp2_with fail;go_roundw;case rel=>
        have h1:=HO7.out.set1 rfl j (by rw[jy j (by omega)];omega) (.bool true) true rfl;rw[zpd j (by omega)]at h1;exact⟨j+1,by go_num,by omega,h1,HK7.out.setCell (p:=⟨gu,j,none⟩) (fun h=>h rfl) _⟩
       case measure=>simp only[intOf];omega
      ·have hjn:j=nb:=by omega
       subst hjn;go_wp2_with fail;go_roundw;case rel=>
        refine⟨1,by go_num,by omega,?_,(HK5.out.trans (HXA.out.keep _)).trans HK7.out⟩;rw[if_neg (by omega)];exact HO7.out
       case measure=>simp only[intOf];omega
    ·have ht1:t=1:=by omega
     subst ht1;have ho5:=HO5.out;rw[if_neg (by omega)]at ho5;have HO5':=hid ho5;have hgφ:φ gu=none:=by
      by_cases e:φ gu=none
      ·exact e
      ·have:=H0.out.lt gu e;have:=HG0.out;omega
     have hm5:=(HMO.out.ext HX4.out).keep (HK5.out.mono fun j hj _ e=>hj (by rw[e];exact hgφ));have e3:w5.cell? ⟨gf,3,none⟩=some (.map (some gm)):=(cr 3 hm5.head)
     have HM5:=hid hm5;have HGφ:=hid hgφ;clear HO5 ho5 hm5 hgφ;obtain⟨kn,hkne⟩ : ∃ kn,kn=kT+nl:=⟨_,rfl⟩
     have hwk:IntKind.i64.wrap ((kT:Int)+(nl:Int))=(kn:Int):=by rw[IntKind.wrap_i64] <;> omega
     have hkn:kn<=n2:=by omega
     have hcn : ¬ c2=kn:=by have:=HKT.out;omega
     clear hkne;have hxd:Ext w5 w5.drew:=(Ext.refl _).drew;have hfe : ∃ v0 st w6,(Instr.mapEntry 148 (.map (some gm)) (.string nm)).run Tryz.prog w5.drew = .ok (.tuple #[v0,st]) w6/\Keep (fun j=>j≠gm) w5.drew w6/\
       ∃ w7,(Instr.entryStore 148 (.map (some gm)) st (.pointer (some ⟨g3,0,none⟩))).run Tryz.prog w6 = .ok () w7/\w7.ownsMap Tryz.prog 9 rawE gm 1 (ym (some g3))/\Keep (fun j=>j≠gm) w5.drew w7:=by
      rw[HNM.out];exact zqq (HM5.out.ext hxd).files g3
     obtain⟨v0,st,w6,hr6,hk6,w7,hr7,hf7,hk7⟩:=hfe;have HF7:=hid hf7;have HK7:=hid hk7;clear hf7 hk7;go_wp2_with fail;have hgmf:gf≠gm:=fun e=>by
      have h1:=H0.out.rf;rw[e,H0.out.rm]at h1;cases h1
     have e36:w6.cell? ⟨gf,3,none⟩=some (.map (some gm)):=(World.cell?_of_block (hk6.block gf hgmf (by have:=HM5.out.glt;simpa using this))).trans (Ext.cellS hxd e3);have e37:w7.cell? ⟨gf,3,none⟩=some (.map (some gm)):=(World.cell?_of_block (HK7.out.block gf hgmf (by have:=HM5.out.glt;simpa using this))).trans (Ext.cellS hxd e3);clear hk6;refine zr (fun w'=>w'.cell? ⟨gf,3,none⟩=some (.map (some gm))) [14] (by kernel_rfl) (Ext.cellS hxd e3) (fun hS=>?_);(refine za 0 rfl ?_;(try simp only[Act.put,tq0,tq1,tq2,tq3,tq4,tq5]));(refine za 1 rfl ?_;(try simp only[Act.put,tq0,tq1,tq2,tq3,tq4,tq5]));(refine za 2 rfl ?_;(try simp only[Act.put,tq0,tq1,tq2,tq3,tq4,tq5]));(refine za 3 rfl ?_;(try simp only[Act.put,tq0,tq1,tq2,tq3,tq4,tq5]));(refine za 4 rfl ?_;(try simp only[Act.put,tq0,tq1,tq2,tq3,tq4,tq5]));(refine za 5 rfl ?_;(try simp only[Act.put,tq0,tq1,tq2,tq3,tq4,tq5]));(refine za 6 rfl ?_;(try simp only[Act.put,tq0,tq1,tq2,tq3,tq4,tq5]));(refine za 7 rfl ?_;(try simp only[Act.put,tq0,tq1,tq2,tq3,tq4,tq5]));(refine za 8 rfl ?_;(try simp only[Act.put,tq0,tq1,tq2,tq3,tq4,tq5]));(refine za 9 rfl ?_;(try simp only[Act.put,tq0,tq1,tq2,tq3,tq4,tq5]));(refine za 10 rfl ?_;(try simp only[Act.put,tq0,tq1,tq2,tq3,tq4,tq5]));refine ze (rs:=[11]) (by kernel_rfl) (by decide) (AllT.consS rfl (fun K hK=>?_) AllT.nil);go_simp;(refine hK.out _ _ (e36) (fun hS=>?_);clear hK K);refine ze (rs:=[12]) (by kernel_rfl) (by decide) (AllT.consS rfl (fun K hK=>?_) AllT.nil);go_simp;(refine hK.out _ _ (e36) (fun hS=>?_);clear hK K);refine ze (rs:=[13]) (by kernel_rfl) (by decide) (AllT.consS rfl (fun K hK=>?_) AllT.nil);go_simp;(refine hK.out _ _ (e37) (fun hS=>?_);clear hK K);refine ze (rs:=[14]) (by kernel_rfl) (by decide) (AllT.consF rfl rfl (fun K hK=>?_) AllT.nil);go_simp;(refine hK.out _ _ ?_;clear hK K);refine zn (by kernel_rfl) (NoPanic.normal ?_) _;clear hr6 hr7 e3;go_wp2_with fail;have hg3φ : ∀ j,W.heap.size<=j->φ j=none:=fun j hj=>by
      by_cases e:φ j=none
      ·exact e
      ·have:=H0.out.lt j e;omega
     have hzo:=HX02.out.size;have hz3:=HX3.out.size;have hz4:=HX4.out.size;have hz5:=HK5.out.size;have hk57:Keep (fun j=>j≠gm) w5 w7:=((Ext.refl w5).drew.keep _).trans HK7.out;have hgmW:gm<W.heap.size:=H0.out.lt gm (by rw[H0.out.rm];simp);have hn7:NodeAt w7 g3 q3 (s:Int) (locs (nbN s)):=(HN4.out.keep HK5.out (show g3≠gu by omega) (fun j hj=>show j≠gu by have:=hq3 j hj;omega)).keep hk57 (show g3≠gm by omega) (fun j hj=>show j≠gm by have:=hq3 j hj;omega);have hf7:=HM5.out.fileGet (s:=s) (g:=g3) (q:=q3) (fun j hj=>by
      rcases hj with hj|hj
      ·exact hg3φ j (by omega)
      ·exact hg3φ j (by have:=hq3 j hj;omega)) hn7 HF7.out hk57
     go_roundw;case measure=>simp only[intOf];have:=HL1.out;omega
     case rel=>
      refine⟨1,by go_num,by have:=HL1.out;omega,fun h=>by omega,fun _=>⟨_,g3,q3,hf7,?_,fun j hj=>?_,?_,?_,HG0.out⟩⟩
      ·have h1:=HO5'.out.kept (hk57.mono fun j hj _=>by
        rcases hj with hj|hj
        ·exact hj.elim
        ·simp only[Value.ownBlock,Option.map_some,Option.some.injEq]at hj;show j≠gm;have:=HG0.out;omega)
       rw[HNB.out]at h1;exact h1
      ·rcases y7 hj with (hj|hj)|hj
       ·exact .inr (by omega)
       ·exact .inr (by have:=hq3 j hj;omega)
       ·exact .inl hj
      ·refine((HX02.out.trans HX4.out).keep (fun j=>φ j=none)).past (S':=fun j=>j≠gu) HK5.out (fun j hj hn=>show j≠gu by have:=HG0.out;omega) |>.past hk57 fun j hj hn e=>?_;rw[e,H0.out.rm]at hn;cases hn
      ·rw[qm (fun h=>by
        rcases h with h|h
        ·omega
        ·have:=hq3 gu h;omega)]
       exact HGφ.out
  ·obtain⟨φi,gni,qni,hf,ho,hn,hk,hg,hgl⟩:=hF (by omega);have hq16:nbD dir<=16:=zw4 HS.out;have e2:wo.cell? ⟨gf,2,none⟩=some (.pointer (some ⟨ga,0,none⟩)):=(cr 2 hf.head)
   have HF:=hid hf;have HO:=hid ho;have HN:=hid hn;have HK:=hid hk;have HG:=hid hg;have HGL:=hid hgl;have HLI:=hid hi;clear hf ho hn hk hg hgl h0 hF hne hg64;go_wp2_with fail;have hfr:=zis 0 (by omega) 0 (by omega) (Nat.le_refl _);refine(zna _ wo ga _ _ HF.out.alloc 28 (by rw[hfr,List.length_range'];omega)).mono ?_;rintro e w3 ⟨v3,rs,rfl,-,-,-,hal,hk3⟩;rw[hfr,zjy 0 (by omega) 28 (by omega) (by omega)]at hal;have hf3:=HF.out.allocTo (T':=fun j=>φi j=some .alloc) (fun j hj=>⟨.inr hj,Nat.lt_of_lt_of_le (HF.out.lt j (by rw[hj];simp)) hk3.size⟩) hal (hk3.mono fun j hj _=>hj.2);rw[zj5]at hf3;have ho3:=HO.out.kept (hk3.mono fun j hj _=>by
    rcases hj with hj|hj
    ·exact hj.elim
    ·simp only[Value.ownBlock,Option.map_some,Option.some.injEq]at hj;rw[<-hj,HG.out];simp)
   have HF3:=hid hf3;have HO3:=hid ho3;have HAL:=hid hal;have HK3:=hid hk3;have HC2:=hid (show ∀ w',Keep (fun j=>φi j≠some .alloc) w3 w'->w'.cell? ⟨gf,2,none⟩=some (.pointer (some ⟨ga,0,none⟩)) from fun w' hk'=>
    (cr 2 ((hk'.block gf (by rw[HF3.out.rf];simp) HF3.out.glt).trans HF3.out.head)))
   clear hfr hal hk3 hf3 ho3 e2;obtain⟨q,hq⟩ : ∃ q,q=nbD dir:=⟨_,rfl⟩
   rw[<-hq]at hq16 HO3;have HQ:=hid hq;clear hq;go_wp2_with fail;go_loopw [143] (fun u143 wr4=>∃ (m:Nat),u143 = .int .i64 m/\m<=28/\MapAt (fun j=>φi j=some .alloc\/(w3.heap.size<=j/\j<wr4.heap.size)) wr4 ga (stL q (max q m)) (qw 0)/\Keep (fun j=>φi j≠some .alloc) w3 wr4) (fun u143 _=>28-(intOf u143).toNat);case atStart=>
    refine⟨0,rfl,by omega,?_,Keep.refl _ _⟩;rw[Nat.max_zero,zpm q (by omega)];exact MapAt.mono' HAL.out fun j hj=>.inl hj
   case round=>
    obtain⟨m,rfl,hm,hma,hkm⟩:=hrel;have HMA:=hid hma;have HKM:=hid hkm;clear hma hkm;by_cases hm28:m<28
    ·obtain⟨gx,ox,cx,ex,hgx,-,zx⟩:=(HO3.out.kept (HKM.out.mono fun j hj _=>by
      rcases hj with hj|hj
      ·exact hj.elim
      ·simp only[Value.ownBlock,Option.map_some,Option.some.injEq]at hj;rw[<-hj,HG.out];simp)).rdT.atB m (by rw[jy q (by omega)];exact hm28)
     simp only[Value.slice.injEq,Option.some.injEq,Addr.mk.injEq]at ex;obtain⟨⟨rfl,rfl,-⟩,-,-⟩:=ex;rw[Nat.zero_add]at zx;have hge:=zh2 q (by omega) m hm28;rw[List.getElem?_eq_getElem (by rw[jy q (by omega)];exact hm28)]at hge;rw[Option.some.inj hge]at zx;clear hge hgx;by_cases hmq:m<q
     ·rw[decide_eq_true hmq]at zx;go_wp2_with fail;refine⟨⟨m+1,by go_num,by omega,?_,HKM.out⟩,by simp only[intOf];omega⟩;rw[show max q (m+1)=max q m by omega];exact HMA.out
     ·rw[decide_eq_false hmq]at zx;have e2:=HC2.out wr HKM.out;have hma':=HMA.out;rw[show max q m=m by omega]at hma';have HMA':=hid hma';clear hma';go_wp2_with fail;obtain⟨w5,hw5⟩ : ∃ w5,w5=wr.alloc (.cells #[.int .i64 (m:Int),.int .i64 1] 209):=⟨_,rfl⟩
      have hx5:Ext wr w5:=by rw[hw5];exact(Ext.refl _).alloc _
      have hz5:w5.heap[wr.heap.size]? = some (.cells #[.int .i64 (m:Int),.int .i64 1] 209 (0,0)):=by rw[hw5];exact heap_alloc_new _ _
      rw[<-hw5];have hma5:=MapAt.mono' (HMA'.out.keep (hx5.keep _)) (T':=fun j=>φi j=some .alloc\/(w3.heap.size<=j/\j<w5.heap.size)) fun j hj=>by
       rcases hj with hj|hj
       ·exact .inl hj
       ·exact .inr ⟨hj.1,Nat.lt_of_lt_of_le hj.2 hx5.size⟩
      refine(zt2 _ w5 ga _ _ hma5 (fun _=>True) _ _ (zvg hz5 trivial (by omega) (by omega))).mono ?_;rintro e w6 hgv;rw[zvs q (by omega) m hm28 (by omega)]at hgv;rcases hgv with⟨nw,hnw,rfl,hma6,hk6⟩|⟨hno,-⟩
      ·obtain rfl:=Option.some.inj hnw;have HMA6:=hid hma6;have HK6:=hid hk6;have HX5:=hid hx5;clear hma6 hk6 hma5 hz5 hw5 hx5 hnw;go_wp2_with fail;have hzz:=HKM.out.size;have hz6:=HK6.out.size;have hz5:=HX5.out.size;refine⟨⟨m+1,by go_num,by omega,?_,HKM.out.past ((HX5.out.keep (fun j=>¬ (φi j=some .alloc\/(w3.heap.size<=j/\j<w5.heap.size)))).trans HK6.out) fun j hj hn=>fun h=>?_⟩,by simp only[intOf];omega⟩
       ·rw[show max q (m+1)=m+1 by omega];refine MapAt.mono' HMA6.out fun j hj=>?_;rcases hj with (hj|hj)|hj
        ·exact .inl hj
        ·exact .inr ⟨hj.1,by omega⟩
        ·exact .inr ⟨by omega,hj.2⟩
       ·rcases h with h|h
        ·exact hn h
        ·omega
      ·cases hno
    ·have hm0:m=28:=by omega
     subst hm0;have hma':=HMA.out;rw[show max q 28=28 by omega,zu1 q (by omega)]at hma';have e2:=HC2.out wr HKM.out;have HMA':=hid hma';clear hma';go_wp2_with fail;refine(ze3 _ _ ga _ _ HMA'.out).mono ?_;rintro e w5 ⟨rfl,hal5,hk5⟩;have hz4:=HKM.out.size;have hz5:=hk5.size;have hk35:Keep (fun j=>φi j≠none/\φi j≠some .alloc) w3 w5:=(HKM.out.mono fun j hj _=>hj.2).past (S':=fun k=>¬(φi k=some .alloc\/(w3.heap.size<=k/\k<wr.heap.size))) hk5 fun j hj hn h=>by
      rcases h with h|h
      ·exact hn.2 h
      ·omega
     have hlt3:=HF3.out.lt;have hf5:=HF3.out.allocTo (T':=za5 (fun j=>φi j=some .alloc\/(w3.heap.size<=j/\j<wr.heap.size)) wr w5) (fun j hj=>by
      have hnone:w3.heap.size<=j->φi j=none:=fun h=>by
       by_cases e:φi j=none
       ·exact e
       ·have:=hlt3 j e;omega
      rcases hj with (hj|hj)|hj
      ·exact⟨.inr hj,by have:=hlt3 j (by rw[hj];simp);omega⟩
      ·exact⟨.inl (hnone hj.1),by omega⟩
      ·exact⟨.inl (hnone (by omega)),hj.2⟩) hal5 hk35
     have hn5:FNew φ (rel φi (za5 (fun j=>φi j=some .alloc\/(w3.heap.size<=j/\j<wr.heap.size)) wr w5) .alloc) W:=fun j hj=>by
      have hzo:=HK.out.size;have hz3:=HK3.out.size;rcases y7 hj with (( hj|hj)|hj)|hj
      ·exact HN.out j (by rw[hj];simp)
      ·exact .inr (by omega)
      ·exact .inr (by omega)
      ·exact HN.out j hj
     generalize rel φi (za5 (fun j=>φi j=some .alloc\/(w3.heap.size<=j/\j<wr.heap.size)) wr w5) .alloc=φ5 at hf5 hn5;have HF5:=hid (show FsP w5 φ5 gf gl H ⟨dir,q,q,0,dir⟩ gc ga gm none gni qni lv from hf5);have HN5:=hid hn5;have hin : ∀ j,φi j=some .alloc->φ j≠none\/W.heap.size<=j:=fun j hj=>HN.out j (by rw[hj];simp);have hK5:Keep (fun j=>φ j=none) W w5:=by
      refine(HK.out.past HK3.out fun j hj hn h=>?_).past ((HKM.out.past (S':=fun k=>¬(φi k=some .alloc\/(w3.heap.size<=k/\k<wr.heap.size))) hk5 fun j hj hn h=>?_):Keep (fun j=>φi j≠some .alloc) w3 w5) fun j hj hn h=>?_
      ·rcases hin j h with h|h
       ·exact h hn
       ·omega
      ·rcases h with h|h
       ·exact hn h
       ·omega
      ·rcases hin j h with h|h
       ·exact h hn
       ·omega
     have HK5:=hid hK5;have e5:w5.cell? ⟨gf,5,none⟩=some (.slice a0 (dirB dir).length c0):=by rw[<-HLV.out];exact(cr 5 hf5.head)
     have e3:w5.cell? ⟨gf,3,none⟩=some (.map (some gm)):=(cr 3 hf5.head)
     rw[HDL.out]at e5;clear hal5 hk5 hk35 hlt3 hf5 hn5 hin hK5 e2;go_wp2_with fail;have hxd:Ext w5 w5.drew:=(Ext.refl _).drew;refine zr (fun w'=>w'.cell? ⟨gf,5,none⟩=some (.slice a0 8192 c0)/\w'.cell? ⟨gf,3,none⟩=some (.map (some gm))) [9,10] (by kernel_rfl) ⟨Ext.cellS hxd e5,Ext.cellS hxd e3⟩ (fun hS=>?_);(refine za 0 rfl ?_;(try simp only[Act.put,tq0,tq1,tq2,tq3,tq4,tq5]));(refine za 1 rfl ?_;(try simp only[Act.put,tq0,tq1,tq2,tq3,tq4,tq5]));(refine za 2 rfl ?_;(try simp only[Act.put,tq0,tq1,tq2,tq3,tq4,tq5]));(refine za 3 rfl ?_;(try simp only[Act.put,tq0,tq1,tq2,tq3,tq4,tq5]));(refine za 4 rfl ?_;(try simp only[Act.put,tq0,tq1,tq2,tq3,tq4,tq5]));(refine za 5 rfl ?_;(try simp only[Act.put,tq0,tq1,tq2,tq3,tq4,tq5]));(refine za 6 rfl ?_;(try simp only[Act.put,tq0,tq1,tq2,tq3,tq4,tq5]));(refine za 7 rfl ?_;(try simp only[Act.put,tq0,tq1,tq2,tq3,tq4,tq5]));refine ze (rs:=[8]) (by kernel_rfl) (by decide) (AllT.consS rfl (fun K hK=>?_) AllT.nil);go_simp;refine(zum (HF5.out.ext hxd) (fun s e=>(HS.out s e).2)).mono ?_;rintro e w6 ⟨v6,rfl,ho6,hb6⟩;have hx6:Ext w5 w6:=hxd.trans (Ext.of hb6);(refine hK.out _ _ (⟨Ext.cellS hx6 e5,Ext.cellS hx6 e3⟩) (fun hS=>?_);clear hK K);have HL6:=hid (show RdB w6 (.slice a0 8192 c0) (dirB dir) by
      have h1:=(HF5.out.ext hx6).laid;rw[HLV.out]at h1;rw[<-HDL.out];exact h1)
     have HO6:=hid (zk ho6);have HX6:=hid hx6;clear ho6 hb6 hx6 hxd hS;refine ze (rs:=[9]) (by kernel_rfl) (by decide) (AllT.consF rfl rfl (fun K hK=>?_) AllT.nil);go_simp;refine(zcx w6 _ _ _ _ HL6.out HO6.out).mono ?_;rintro e w7 ⟨rfl,rfl⟩;(refine hK.out _ _ ?_;clear hK K);refine ze (rs:=[10]) (by kernel_rfl) (by decide) (AllT.consF rfl rfl (fun K hK=>?_) AllT.nil);go_simp;(refine hK.out _ _ ?_;clear hK K);refine zn (by kernel_rfl) (NoPanic.normal ?_) _;go_wp2_with fail;go_ret;refine⟨rfl,φ5,⟨gni,qni,?_⟩,HN5.out,HK5.out.trans (HX6.out.keep _)⟩;rw[<-HQ.out];exact HF5.out.ext HX6.out
end
end
end Go.Proofs.YtnadlnmclameiaaGreatDoor
