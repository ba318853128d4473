/- part 27 -/
import Derived.Test.YtnadlnmclameiaaGreatDoorTS26
import Derived.Sort.KeysCollected
set_option maxRecDepth 100000
set_option maxHeartbeats 8000000
set_option linter.all false
namespace Go.Proofs.YtnadlnmclameiaaGreatDoor
section
open Go.RowKit Go.Maps
theorem jp {k:TypeId}{w:World}{b n:Nat}{l:List (Lit × DataW Value)} (h:w.ownsMap Tryz.prog k rawE b n (.map l)):w.ownsMap Tryz.prog k rawE b l.length (.map l):=by
 obtain⟨es,clock,h1,h2,h3,h4⟩:=h;refine⟨es,clock,h1,h2,?_,h4⟩;have:=congrArg (fun D:DataW Value=>match D with | .map l=>l.length|_=>0) h4;simp only[length_sorted,List.length_map,Array.length_toList]at this;omega
theorem zxq (w:World):Calls Tryz.prog 85 #[.string seg0] w fun e w'=>e = .returned (.bool true)/\w=w':=by
 unfold seg0;go_enter Tryz.func85,Tryz.ntmps85;go_wp2_with fail;go_ret;exact⟨rfl,rfl⟩
section
variable {w W W':World}{φ:Nat->Option FRol}{gf gl:Nat}{C C':Int->Bk}{k:FsS}{gc ga gm:Nat}{gt:Option Nat}{gn:Nat}{qn:Option Nat}{lv:Value}
theorem FsP.fileTo (h:FsP W φ gf gl C k gc ga gm gt gn qn lv) {gn':Nat} (hφ:φ gn'=none) (hn:NodeAt W' gn' none ((0:Nat):Int) (locs (nbN 0))) (hf:W'.ownsMap Tryz.prog 9 rawE gm 1 (ym (some gn'))) (hk:Keep (fun j=>j≠gm) W W') :
  FsP W' (rel φ (fun j=>j=gn') .node) gf gl C { k with sz:=some 0 } gc ga gm gt gn' none lv:=by
 have hT1 : ∀ j,j=gn'->φ j=none\/φ j=some .node:=fun j hj=>by subst hj;exact .inl hφ
 have old : ∀ {j:Nat}{r:FRol},φ j=some r->rel φ (fun j=>j=gn') .node j=some r:=fun {j r} hj=>zb0 hT1 hj;have hne : ∀ {j:Nat}{r:FRol},φ j=some r->r≠ .files->j≠gm:=fun {j r} hj hr e=>by subst e;rw[h.rm]at hj;exact hr (Option.some.inj hj).symm
 exact {
  head:=(hk.block gf (hne h.rf (by simp)) h.glt).trans h.head
  rf:=old h.rf
  cache:=(h.cache.keep (hk.mono fun j hj _=>hne hj (by simp))).mono fun j hj _=>old hj
  alloc:=MapAt.mono' (h.alloc.keep (hk.mono fun j hj _=>hne hj (by simp))) fun j hj=>old hj
  files:=hf
  rm:=old h.rm
  node:=fun s hs=>by
   cases hs;exact⟨hn,qv rfl,fun j hj=>by cases hj⟩
  laid:=Rd.carry0 h.laid hk.size fun _ j hj hl=>hk.block j (hne (h.rl j hj) (by simp)) hl
  rl:=fun j hj=>old (h.rl j hj)
  lt:=fun j hj=>by
   rcases y7 hj with hj|hj
   ·subst hj;exact hn.lt
   ·exact Nat.lt_of_lt_of_le (h.lt j hj) hk.size }
end
section
variable {w W:World}{g:Nat}{ρ:Nat->Option DRol}{N:Nat}{d:Dv}{gl n:Nat}{C:Int->Bk}{P:(Int->Bk)->Prop}{φ:Nat->Option FRol}{gf:Nat}{k:FsS}{gc ga gm:Nat}{gt:Option Nat}{gn:Nat}{qn:Option Nat}{lv:Value}
theorem zwl (h:FsB w W g ρ N d gl n C P φ gf k gc ga gm gt gn qn lv) (hz:k.sz=none) :
  Calls Tryz.prog 51 #[.pointer (some ⟨gf,0,none⟩),.string seg0] W fun e W'=>e = .returned (.int .i64 0)/\∃ φ' gn',FStep W W' ρ ρ gl φ φ'/\
   FsB w W' g ρ N d gl n C P φ' gf { k with sz:=some 0 } gc ga gm gt gn' none lv:=by
 have H0:=hid h;have HZ:=hid hz;have c3:=(cr 3 h.mem.head)
 have hlk:=h.mem.look_no hz;have hfl:=h.mem.files;rw[hz]at hfl;have hlen : ∀ ty,(Builtin.len_ #[148] ty #[.map (some gm)]).run Tryz.prog W = .ok (.int .i64 0) W:=fun ty=>hfl.len Tryz.underlying148 ty;have HFL:=hid hfl;have HNM:=hid (zxq W);obtain⟨nm,hnm⟩ : ∃ nm,nm=seg0:=⟨_,rfl⟩
 rw[<-hnm]at hlk HNM ⊢;have HSG:=hid hnm;clear h hz hfl hnm;go_enter Tryz.func51,Tryz.ntmps51;go_wp2_with fail;refine(FUse H0.out.at).mono ?_;rintro e w1 ⟨rfl,rfl⟩;go_wp2_with fail;refine HNM.out.mono ?_;rintro e w1 ⟨rfl,rfl⟩;go_wp2_with fail;have hxd:Ext W W.drew:=by(exact Ext.xt)
 clear hlk hlen;refine zr (fun w'=>w'.cell? ⟨gf,3,none⟩=some (.map (some gm))) [6] (by kernel_rfl) (Ext.cellS hxd c3) (fun hS=>?_);(refine za 0 rfl ?_;(try simp only[Act.put,tq0,tq1,tq2,tq3,tq4,tq5]));(refine za 1 rfl ?_;(try simp only[Act.put,tq0,tq1,tq2,tq3,tq4,tq5]));(refine za 2 rfl ?_;(try simp only[Act.put,tq0,tq1,tq2,tq3,tq4,tq5]));(refine za 3 rfl ?_;(try simp only[Act.put,tq0,tq1,tq2,tq3,tq4,tq5]));(refine za 4 rfl ?_;(try simp only[Act.put,tq0,tq1,tq2,tq3,tq4,tq5]));refine ze (rs:=[5]) (by kernel_rfl) (by decide) (AllT.consS rfl (fun K hK=>?_) AllT.nil);go_simp;refine(za0 W.drew).mono ?_;rintro e w2 ⟨gn',rfl,hn,hgn,hb⟩;have hx2:Ext W w2:=hxd.trans (Ext.of hb);have hgn':W.heap.size<=gn':=hgn;have HN:=hid hn;have HX2:=hid hx2;clear hn hgn hb hS hxd;(refine hK.out _ _ (Ext.cellS hx2 c3) (fun hS=>?_);clear hK K);have hb2:=H0.out.ext hx2;have hfl2:=hb2.mem.files;rw[HZ.out]at hfl2;obtain⟨w3,hrun,hf3,hmt⟩:=(jp hfl2).store (t:=148) kStr.law Tryz.underlying148 (by simp[maxLen]) (kStr.key (x:=seg0) (show seg0.size<=maxLen by decide)) (d:=.held (.pointer (some ⟨gn',0,none⟩))) (ps:=[]) rfl;have hf3':w3.ownsMap Tryz.prog 9 rawE gm 1 (ym (some gn')):=hf3;have hrun:(Instr.mapUpdate 148 (.map (some gm)) (.string nm) (.pointer (some ⟨gn',0,none⟩))).run Tryz.prog w2 = .ok () w3:=by rw[HSG.out];exact hrun
 have hk3:Keep (fun j=>j≠gm) w2 w3:=(zl hmt.grown).mono fun j hj _ e=>hj (Option.some.inj e);have hlt:=hb2.late (j:=gn');have hgm:φ gm=some .files:=hb2.mem.rm;have hnn:φ gn'=none:=by
  by_cases e:φ gn'=none
  ·exact e
  ·have:=H0.out.mem.lt gn' e;omega
 have hm3:=hb2.mem.fileTo hnn (HN.out.keep hk3 (fun e=>by rw[e,hgm]at hnn;cases hnn) (fun j hj=>by cases hj)) hf3' hk3;have hput:=hb2.put.kept (hk3.mono fun j hj _ e=>by
  subst e;obtain⟨q1,q2,q3⟩:=H0.out.dis _ (by rw[hgm];simp);rcases hj with (hj|hj)|hj
  ·exact hj q1
  ·omega
  ·exact q2 hj)
 have hφ : ∀ j,rel φ (fun j=>j=gn') .node j≠none->φ j≠none\/W.heap.size<=j:=fun j hj=>by
  rcases y7 hj with hj|hj
  ·exact .inr (by rw[hj];exact hgn')
  ·exact .inl hj
 have HB3:=hid (show FsB w w3 g ρ N d gl n C P (rel φ (fun j=>j=gn') .node) gf { k with sz:=some 0 } gc ga gm gt gn' none lv from⟨hput,hm3,fun j hj=>by
  rcases hφ j hj with h|h
  ·exact H0.out.dis j h
  ·obtain⟨q1,q2,q3⟩:=H0.out.late h;exact⟨q1,q3,by have:=H0.out.put.hm.ex.size;omega⟩⟩)
 have HST:=hid (show FStep W w3 ρ ρ gl φ (rel φ (fun j=>j=gn') .node) from⟨RolNew.refl _ _,hφ,(hx2.keep _).trans (hk3.mono fun j hj _ e=>by subst e;exact hj (.inr (.inr (by rw[hgm];simp))))⟩);clear hb2 hfl2 hf3 hf3' hmt hk3 hlt hgm hm3 hput hφ hx2 hnn;refine ze (rs:=[6]) (by kernel_rfl) (by decide) (AllT.consF rfl rfl (fun K hK=>?_) AllT.nil);go_simp;(refine hK.out _ _ ?_;clear hK K);refine zn (by kernel_rfl) (NoPanic.normal ?_) _;go_wp2_with fail;go_ret;exact⟨rfl,_,gn',HST.out,HB3.out⟩
end
end
section
open Go.RowKit Go.Maps Go.Sort Go.Shelf
theorem zpp (m:Nat):AnyZ.SortsIn Tryz.prog zfx Fence.wide m:=
 ⟨fun blk off cap ss W hH hblk hsz=>callsIn_wide.2 (AnyM.slices_Sort_string zua blk off cap ss W hH hblk hsz),
  fun p cap W=>callsIn_wide.2 (AnyM.slices_Sort_string_none zua p cap W)⟩
def qp (o:Option Nat):List ByteArray:=match o with|none=>[]|some _=>[seg0]
theorem zek:strKeys (ym none)=[]:=rfl
theorem zej (g:Nat):strKeys (ym (some g))=[segN]:=rfl
theorem zun (mb:Option Nat) (W:World):Calls Tryz.prog 133 #[.map mb] W fun e w'=>e = .returned (.func (.func 163) #[] #[.pointer (some ⟨W.heap.size,0,none⟩)])/\w'=W.alloc (.cells #[.map mb] 148):=
 (callsIn_wide (n:=5)).1 (AnyZ.keys_in zoc Fence.wide 5 trivial rfl mb W)
theorem zwj (w:World) (gm:Nat) (o:Option Nat) (hown:w.ownsMap Tryz.prog 9 rawE gm 1 (ym o)) :
  Calls Tryz.prog 132 #[.func (.func 163) #[] #[.pointer (some ⟨w.heap.size,0,none⟩)]] (w.alloc (.cells #[.map (some gm)] 148)) fun e w'=>∃ v,e = .returned v/\OwnS rS 9 w' w.heap.size (fun _=>False) v (qp o)/\Ext w w':=by
 have hbl:=hown.lt;have hmax:Maps.size (ym o)<=maxLen:=Nat.le_trans hown.size_le (by unfold maxLen;omega);have hbytes:Maps.size (ym o)*16<=140737488355328:=by have:=hown.size_le;omega
 have hseq:SeqGives Fence.wide 2 Tryz.prog 163 #[.pointer (some ⟨w.heap.size,0,none⟩)] encStr (fun ss=>ss.Perm (strKeys (ym o))) (Maps.size (ym o)) (w.alloc (.cells #[.map (some gm)] 148)):=
  AnyZ.keys_gives (ρ:=zes) { zoc with } Fence.wide _ trivial rfl (by omega) w.heap.size gm 1 (ym o) _ (by simp) (by simp) (by
   obtain⟨es,clock,hb,Ft,hs,hD⟩:=hown;exact⟨es,clock,(Below.heap_alloc _ _ gm hbl).trans hb,Ft,hs,hD⟩)
 have cS:=AnyZ.sorted_in zmr Fence.wide 5 trivial trivial trivial trivial rfl (by omega) (zpp _) (enters_of Tryz.func162 (by kernel_rfl) rfl) 163 #[.pointer (some ⟨w.heap.size,0,none⟩)] trivial (enters_of Tryz.func163 (by kernel_rfl) rfl) _ _ hmax hbytes _ hseq;change CallsIn _ _ Tryz.prog 132 _ _ _ at cS;refine((callsIn_wide (n:=5)).1 cS).mono ?_;rintro e w' ⟨v,ss,rfl,hS,hrow,hnil,hb⟩;have hss:(ss.mergeSort leB).map (fun l=>(⟨l.toArray⟩:ByteArray))=qp o/\(ss.mergeSort leB).length=ss.length/\∀ l∈ss.mergeSort leB,l.length<=5:=by
  refine⟨?_,List.length_mergeSort ss,?_⟩
  ·cases o with
   | none=>rw[zek]at hS;rw[List.perm_nil.1 hS];simp[qp]
   | some g=>rw[zej]at hS;rw[List.perm_singleton.1 hS];simp[qp,seg0,segN]
  ·cases o with
   | none=>rw[zek]at hS;rw[List.perm_nil.1 hS];simp
   | some g=>
    rw[zej]at hS;rw[List.perm_singleton.1 hS];intro l hl;have:l=segN:=by simpa using hl
    rw[this];decide
 obtain⟨h1,hln,h3⟩:=hss;refine⟨v,rfl,⟨(ss.mergeSort leB).map (fun l=>([.string ⟨l.toArray⟩],⟨l.toArray⟩)),by rw[<-h1,List.map_map];rfl,?_,fun k _ h=>h,?_⟩,((Ext.refl w).alloc _).trans (hb.mono (by simp))⟩
 ·have hc:cellsOf ((ss.mergeSort leB).map (fun l=>([Value.string ⟨l.toArray⟩],(⟨l.toArray⟩:ByteArray))))=(ss.mergeSort leB).map encStr:=by
   unfold cellsOf;rw[List.flatMap_map];induction ss.mergeSort leB with
   | nil=>rfl
   | cons a l ih=>rw[List.flatMap_cons,ih];rfl
  rw[hc,List.length_map,hln];exact ownsRow_base_a hrow (by simp)
 ·intro p hp;obtain⟨l,hl,rfl⟩:=List.mem_map.1 hp;refine⟨rfl,?_⟩;have:=h3 l hl;show l.toArray.size<=_;simp;omega
theorem kcFs (W:World):(convert 33 33 (.slice (some ⟨W.heap.size,0,none⟩) 5 5)).run Tryz.prog (W.alloc (.cells #[.int .u8 102,.int .u8 105,.int .u8 108,.int .u8 101,.int .u8 115] 5)) = .ok (.slice (some ⟨W.heap.size,0,none⟩) 5 5) (W.alloc (.cells #[.int .u8 102,.int .u8 105,.int .u8 108,.int .u8 101,.int .u8 115] 5 (5,6))):=zqj W W.heap.size _ 5 5 rfl
theorem zer (W:World):RdB (W.alloc (.cells #[.int .u8 102,.int .u8 105,.int .u8 108,.int .u8 101,.int .u8 115] 5 (5,6))) (.slice (some ⟨W.heap.size,0,none⟩) 5 5) magicF:=
 zaq (b:=magicF) (heap_alloc_new _ _) 5 rfl (by omega)
def dirH (o:Option Nat):List UInt8:=magicF++putU (qp o).length
theorem zbd (s:Nat):dirL (some s)=dirH (some s)++putT segN++xu (s:Nat) (locs (nbN s)):=rfl
def dirI (o:Option Nat) (i:Nat):List UInt8:=if i=0 then dirH o else dirL o
theorem zey (o:Option Nat):dirI o 0=dirH o:=if_pos rfl
theorem ztd (o:Option Nat):dirI o (qp o).length=dirL o:=by cases o <;> rfl
section
variable {W:World}{φ:Nat->Option FRol}{gf gl:Nat}{C:Int->Bk}{k:FsS}{gc ga gm:Nat}{gt:Option Nat}{gn:Nat}{qn:Option Nat}{lv:Value}
theorem zum (h:FsP W φ gf gl C k gc ga gm gt gn qn lv) (hs : ∀ s,k.sz=some s->s<=8192) :
  Calls Tryz.prog 78 #[.map (some gm)] W (NewB (dirB k.sz) W):=by
 have H:=hid h;have HS:=hid hs;have hkc:=kcFs W;have x1:Ext W (W.alloc (.cells #[.int .u8 102,.int .u8 105,.int .u8 108,.int .u8 101,.int .u8 115] 5 (5,6))):=(Ext.refl _).alloc _;have hfl:=(h.ext x1).files;have hnl:Maps.size (ym (k.sz.map fun _=>gn))=(qp k.sz).length:=by cases k.sz <;> rfl
 have hlen : ∀ ty,(Builtin.len_ #[148] ty #[.map (some gm)]).run Tryz.prog (W.alloc (.cells #[.int .u8 102,.int .u8 105,.int .u8 108,.int .u8 101,.int .u8 115] 5 (5,6))) = .ok (.int .i64 ((qp k.sz).length:Int)) (W.alloc (.cells #[.int .u8 102,.int .u8 105,.int .u8 108,.int .u8 101,.int .u8 115] 5 (5,6))):=fun ty=>by
  have:=hfl.len Tryz.underlying148 ty;rw[hnl]at this;exact this
 have hnl1:(qp k.sz).length<=1:=by cases k.sz <;> simp[qp]
 obtain⟨L,hL⟩ : ∃ L,L=(qp k.sz).length:=⟨_,rfl⟩
 rw[<-hL]at hlen hnl1;have hwl:IntKind.u64.wrap (L:Int)=(L:Int):=by
  unfold IntKind.wrap;simp[IntKind.min,IntKind.max,IntKind.bits,IntKind.signed];omega
 have HL:=hid hL;have HX1:=hid x1;clear h hs hfl hnl hL x1;go_enter Tryz.func78,Tryz.ntmps78;go_wp2_with fail;refine(yi _ _ magicF L (zer W) (by omega) (by simp[magicF])).mono ?_;rintro e w1 ⟨v1,rfl,ho1,hb1⟩;have hd1:magicF++putU L=dirI k.sz 0:=by rw[zey,HL.out];rfl
 rw[hd1]at ho1;have HO1:=hid (ho1.low HX1.out.size);have HXW1:=hid (HX1.out.trans hb1);clear ho1 hb1 hd1 hkc hlen hwl;obtain⟨a1,c1,e1⟩:=HO1.out.slice;subst e1;go_wp2_with fail;refine(zun (some gm) w1).mono ?_;rintro e w2 ⟨rfl,hw2⟩;have HW2:=hid hw2;clear hw2;go_wp2_with fail;rw[HW2.out];refine(zwj w1 gm _ (H.out.ext HXW1.out).files).mono ?_;rintro e w3 ⟨v3,rfl,ho3,hx3⟩;have hnm:qp (k.sz.map fun _=>gn)=qp k.sz:=by cases k.sz <;> rfl
 rw[hnm]at ho3;obtain⟨a3,c3,rfl⟩:=ho3.slice;rw[<-HL.out];have HO3:=hid ho3;have HX3:=hid hx3;clear ho3 hx3 hnm HW2;go_wp2_with fail;go_loopw [3,16] (fun u3 u16 wr=>∃ (i:Nat) (ai:Option Addr) (ci:Nat),u3 = .slice ai (dirI k.sz i).length ci/\u16 = .int .i64 i/\i<=L/\OwnB wr W.heap.size (.slice ai (dirI k.sz i).length ci) (dirI k.sz i)/\Ext w3 wr) (fun _ u16 _=>L-(intOf u16).toNat);case atStart=>exact⟨0,a1,c1,rfl,rfl,Nat.zero_le _,HO1.out.ext HX3.out,Ext.refl _⟩
 case round=>
  obtain⟨i,ai,ci,rfl,rfl,hi,ho,hx⟩:=hrel;have HO:=hid ho;have HX:=hid hx;clear ho hx HO1;by_cases hlt:i<L
  ·have hi0:i=0:=by omega
   have hL1:L=1:=by omega
   subst hi0;obtain⟨s,hsz⟩ : ∃ s,k.sz=some s:=by
    cases hz:k.sz with
    | none=>have:=HL.out;rw[hz]at this;simp[qp]at this;omega
    | some s=>exact⟨s,rfl⟩
   have hnms:qp k.sz=[seg0]:=by rw[hsz];rfl
   have ho3:=HO3.out.ext HX.out;rw[hnms]at ho3;obtain⟨g3,o3,cap3,e3,-,-,d3,-⟩:=(ho3.rdT).atS 0 (by simp);have e3':=e3;simp only[Value.slice.injEq,List.length_singleton]at e3';obtain⟨rfl,-,rfl⟩:=e3';simp only[List.getElem_cons_zero,Nat.add_zero]at d3;obtain⟨nm,hnm⟩ : ∃ nm,nm=seg0:=⟨_,rfl⟩
   rw[<-hnm]at d3;have HXX:=hid ((HXW1.out.trans HX3.out).trans HX.out);have hlk : ∀ w',Ext wr w'->(Instr.lookup 148 (.map (some gm)) (.string nm) false).run Tryz.prog w' = .ok (.pointer (some ⟨gn,0,none⟩)) w':=fun w' hw=>by
    rw[hnm];exact(H.out.ext (HXX.out.trans hw)).look_seg hsz
   have HLK:=hid hlk;have HNM:=hid hnm;have hsg:nm.size=5:=by rw[hnm];rfl
   have hsgl:nm.data.toList=segN:=by rw[hnm];rfl
   have HSG:=hid hsg;have HSGL:=hid hsgl;have hdh:(dirI k.sz 0).length<=100:=by
    have:=zav k.sz;rw[hsz,zbd]at this;rw[hsz,zey];simp only[List.length_append]at this ⊢;omega
   have ho:=HO.out;obtain⟨B,hB⟩ : ∃ B,B=dirI k.sz 0:=⟨_,rfl⟩
   rw[<-hB]at ho hdh ⊢;have HB:=hid hB;have HOB:=hid ho;have HD3:=hid d3;have HSZ:=hid hsz;have HL1:=hid hL1;have i1:(0:Int)<(L:Int):=by omega
   clear hnms ho3 e3 hlk hnm hsg hsgl ho hB HO hsz hL1;go_wp2_with fail;have hxd:Ext wr wr.drew:=by(exact Ext.xt)
   refine zr (fun w'=>(Instr.lookup 148 (.map (some gm)) (.string nm) false).run Tryz.prog w' = .ok (.pointer (some ⟨gn,0,none⟩)) w') [7,8] (by kernel_rfl) (HLK.out _ hxd) (fun hS=>?_);(refine za 0 rfl ?_;(try simp only[Act.put,tq0,tq1,tq2,tq3,tq4,tq5]));(refine za 1 rfl ?_;(try simp only[Act.put,tq0,tq1,tq2,tq3,tq4,tq5]));(refine za 3 rfl ?_;(try simp only[Act.put,tq0,tq1,tq2,tq3,tq4,tq5]));(refine za 4 rfl ?_;(try simp only[Act.put,tq0,tq1,tq2,tq3,tq4,tq5]));(refine za 5 rfl ?_;(try simp only[Act.put,tq0,tq1,tq2,tq3,tq4,tq5]));refine ze (rs:=[2]) (by kernel_rfl) (by decide) (AllT.consS rfl (fun K hK=>?_) AllT.nil);go_simp;refine(vm wr.drew _ B nm (zk (HOB.out.ext hxd)) (by have:=HSG.out;omega) (by have:=HSG.out;omega)).mono ?_;rintro e w4 ⟨v4,rfl,ho4,hb4⟩;have hx4:Ext wr w4:=hxd.trans hb4;have hbl2:(B++putT nm.data.toList).length<=300:=by
    rw[HSGL.out,List.length_append];have:(putT segN).length<=20:=by decide
    omega
   obtain⟨B2,hB2⟩ : ∃ B2,B2=B++putT nm.data.toList:=⟨_,rfl⟩
   rw[<-hB2]at ho4 hbl2;have HB2:=hid hB2;clear hB2;obtain⟨a4,c4,rfl⟩:=ho4.slice;have HO4:=hid ho4;have HX4:=hid hx4;clear ho4 hb4 hS hxd;(refine hK.out _ _ (HLK.out _ hx4) (fun hS=>?_);clear hK K);clear hx4;refine ze (rs:=[6]) (by kernel_rfl) (by decide) (AllT.consS rfl (fun K hK=>?_) AllT.nil);go_simp;have hnd:=(H.out.ext (HXX.out.trans HX4.out)).node s HSZ.out;refine(zi7 w4 gn qn s _ hnd.1 (zdb s (by have:=HS.out s HSZ.out;omega))).mono ?_;rintro e w5 ⟨v5,rfl,ho5,hb5⟩;have hx45:Ext w4 w5:=hb5;obtain⟨a5,c5,rfl⟩:=ho5.slice;have HO5:=hid ho5;have HX45:=hid hx45;clear ho5 hb5 hnd hS hx45;(refine hK.out _ _ (HLK.out _ (HX4.out.trans HX45.out)) (fun hS=>?_);clear hK K);refine ze (rs:=[7]) (by kernel_rfl) (by decide) (AllT.consF rfl rfl (fun K hK=>?_) AllT.nil);have hnl:(xu (s:Nat) (locs (nbN s))).length<=100:=by
    have:=zav (some s);rw[zbd]at this;simp only[List.length_append]at this;omega
   have hzw:w3.heap.size<=w5.heap.size:=(HX.out.trans (HX4.out.trans HX45.out)).size;have HO45:=hid (show OwnB w5 w3.heap.size (.slice a4 B2.length c4) B2 from j4 (HO4.out.ext HX45.out) (show w3.heap.size<=wr.drew.heap.size from HX.out.size));refine zcn rfl _ _ _ rfl w3.heap.size (.slice a4 B2.length c4) B2 rfl (qg HO45.out) (.slice a5 (xu (s:Nat) (locs (nbN s))).length c5) (xu (s:Nat) (locs (nbN s))) rfl (bz (zk HO5.out)) (by omega) hzw ?_;intro v6 w6 k1 k2 k3 k4 k5 k6;have ho6:=k3 HO45.out;have hx36:Ext w3 w6:=Ext.step (HX.out.trans (HX4.out.trans HX45.out)) k5 (Nat.le_refl _);have hde:B2++xu (s:Nat) (locs (nbN s))=dirI k.sz (0+1):=by
    rw[HB2.out,HB.out,HSGL.out,HSZ.out,zey];rfl
   rw[hde]at ho6;obtain⟨a6,c6,rfl⟩:=ho6.slice;have HO6:=hid ho6;have HX36:=hid hx36;clear k1 k2 k3 k4 k5 k6 ho6 hx36 hde hbl2 hnl;(refine hK.out _ _ ?_;clear hK K);refine ze (rs:=[8]) (by kernel_rfl) (by decide) (AllT.consF rfl rfl (fun K hK=>?_) AllT.nil);go_simp;(refine hK.out _ _ ?_;clear hK K);refine zn (by kernel_rfl) (NoPanic.normal ?_) _;go_wp2_with fail;refine⟨⟨1,a6,c6,rfl,rfl,by omega,j4 HO6.out (HXW1.out.trans HX3.out).size,HX36.out⟩,by simp only[intOf];omega⟩
  ·have hie:i=L:=by omega
   subst hie;have hdl:dirI k.sz i=dirL k.sz:=by rw[HL.out];exact ztd _
   have hd100:=zav k.sz;have hd5:0<(dirL k.sz).length:=by
    cases k.sz <;> simp[dirL,magicF]
   have ho:=HO.out;rw[hdl]at ho ⊢;have HO':=hid ho;obtain⟨B,hB⟩ : ∃ B,B=dirL k.sz:=⟨_,rfl⟩
   rw[<-hB]at HO' hd100 hd5 ⊢;have HB:=hid hB;clear ho hdl hB HO;have i1 : ¬ (i:Int)<(i:Int):=by omega
   have hzz:=Nat.le_trans HXW1.out.size (Nat.le_trans HX3.out.size HX.out.size);have HXX:=hid ((HXW1.out.trans HX3.out).trans HX.out);have hsub:IntKind.i64.wrap (8192-(B.length:Int))=((8192-B.length:Nat):Int):=by rw[IntKind.wrap_i64] <;> omega
   go_wp2_with (at_builtin;go_must (refine zfa rfl _ _ rfl W.heap.size _ B rfl (qg HO'.out) (8192-B.length) rfl ?_ ?_ ?_;(first|omega|skip);(first|omega|skip);intro v4 w4 k1 k2 k3 k4 k5 k6;have ho4:=k3 HO'.out;have hx4:Ext W w4:=Ext.step HXX.out k5 (Nat.le_refl _);clear k1 k2 k3 k4 k5 k6))
   go_ret;have hdb:B++List.replicate (8192-B.length) 0=dirB k.sz:=by rw[HB.out];rfl
   rw[hdb]at ho4;exact⟨v4,rfl,ho4,hx4⟩
end
end
section
open Go.RowKit Go.Maps
theorem zuu {w:World}{ops:Array Oper}{rest:List Oper}{o:Oper}{a:Act}{Q:Exit->Act->World->Prop} (hgd:o.guard=none) (s x:Operand)
  (ho:o.op = .call { callee:=.builtin .append,args:=#[s,x],argTypes:=#[164,164] }) (base:Nat) (S:Nat->Prop)
  (v:Value) (xs:List JW) (hs:a.eval s=v) (happ:OwnS rWr 220 w base S v xs)
  (n:Int) (u:Value) (b:List UInt8) (gb:Nat) (hx:a.eval x = .slice (some ⟨gb,0,none⟩) 1 1)
  (hrow:w.heap[gb]? = some (.cells #[.int .i64 n,u] 220 (0,0))) (hone:u.oneCell'=true) (hrd:rWr.rd w S [.int .i64 n,u] (n,b)) (hSlt : ∀ k,S k->k<w.heap.size) (hl:xs.length<=1000) (hbase:base<=w.heap.size)
  (h : ∀ v' w',OwnS rWr 220 w' base S v' (xs++[(n,b)])->w.grownBy w' v.ownBlock->wpList Tryz.prog ops Q rest (a.put o.dst v') w'):wpList Tryz.prog ops Q (o :: rest) a w:=by
 refine wpList_plain hgd fun _ hK=>?_;refine zhl rWr s x 164 164 220 (.agg #[.int .i64 0,.slice none 0 0]) 32 ho Tryz.underlying164 zkq rfl base S v xs hs happ _ [([.int .i64 n,u],(n,b))] hx ?_ ?_ hSlt (by simp;omega) (by simp;omega) hbase ?_
 ·exact zby Tryz.underlying164 hrow (fun u' hu=>by
   rcases List.mem_cons.1 hu with rfl|hu
   ·rfl
   ·rcases List.mem_cons.1 hu with rfl|hu
    ·exact hone
    ·cases hu) rfl
 ·intro p hp;obtain rfl:=List.mem_singleton.1 hp;exact hrd
 ·intro v' w' k1 k2 k3;exact hK _ _ (h v' w' k1 k2)
theorem znd (W:World) (a1 a2:Option Addr) (c1 c2:Nat) (was now:List UInt8) (h1:RdB W (.slice a1 8192 c1) was) (h2:RdB W (.slice a2 8192 c2) now) (l1:was.length=8192) (l2:now.length=8192) :
  Calls Tryz.prog 77 #[.slice a1 8192 c1,.slice a2 8192 c2] W fun e W'=>∃ v,e = .returned v/\OwnS rWr 220 W' W.heap.size (fun j=>(Value.slice a2 8192 c2).ownBlock=some j) v (ye was now 16)/\Ext W W':=by
 have H1:=hid h1;have H2:=hid h2;have L1:=hid l1;have L2:=hid l2;have hc1:8192<=c1/\c1<=9223372036854775807:=by
  obtain⟨_,cap,e,q1,q2,-⟩:=h1;simp only[Value.slice.injEq]at e;unfold maxLen at q2;omega
 have hc2:8192<=c2/\c2<=9223372036854775807:=by
  obtain⟨_,cap,e,q1,q2,-⟩:=h2;simp only[Value.slice.injEq]at e;unfold maxLen at q2;omega
 have hS : ∀ j,(Value.slice a2 8192 c2).ownBlock=some j->j<W.heap.size:=fun j hj=>Rd.block_lt h2 (by omega) j hj;have HS:=hid hS;clear h1 h2 l1 l2 hS;go_enter Tryz.func77,Tryz.ntmps77;go_wp2_with fail;go_loopw [5,9] (fun u5 u9 wr=>∃ (i:Nat) (ai:Option Addr) (ci:Nat),u5 = .slice ai (ye was now i).length ci/\u9 = .int .i64 i/\i<=16/\OwnS rWr 220 wr W.heap.size (fun j=>(Value.slice a2 8192 c2).ownBlock=some j) (.slice ai (ye was now i).length ci) (ye was now i)/\Ext W wr) (fun _ u9 _=>16-(intOf u9).toNat);case atStart=>exact⟨0,none,0,rfl,rfl,Nat.zero_le _,OwnS.nil _ _ _ _ _,Ext.refl _⟩
 case round=>
  obtain⟨i,ai,ci,rfl,rfl,hi,ho,hx⟩:=hrel;have HO:=hid ho;have HX:=hid hx;have hwl:=zfs was now i;clear ho hx;by_cases hlt:i<16
  ·obtain⟨fr,hfr⟩ : ∃ fr,fr=512*i:=⟨_,rfl⟩
   obtain⟨WL,hWL⟩ : ∃ WL,WL=ye was now i:=⟨_,rfl⟩
   rw[<-hWL]at HO hwl ⊢;have HWL:=hid hWL;have HFR:=hid hfr;have i1:(i:Int)<16:=by omega
   clear hWL hfr;go_upto_region 6 with (fail)
   obtain⟨te,hte⟩ : ∃ te,te=512*i+512:=⟨_,rfl⟩
   rw[show (i:Int)*512=(fr:Int) by have:=HFR.out;omega,show ((i:Int)+1)*512=(te:Int) by omega];have n1 : ¬ c1=fr:=by have:=HFR.out;omega
   have n2 : ¬ c2=fr:=by have:=HFR.out;omega
   have n3:fr<=te:=by have:=HFR.out;omega
   have n4:te<=c1:=by omega
   have n5:te<=c2:=by omega
   have HTE:=hid hte;have htf:te-fr=512:=by have:=HFR.out;omega
   have HTF:=hid htf;clear hte htf;have hq : ∀ (a:Option Addr) (c:Nat) (l:List UInt8),l.length=8192->RdB W (.slice a 8192 c) l->¬ c=fr->∀ n,RdB (wr.drewN n) (.slice (Option.map (fun x=>x.add fr) a) (te-fr) (c-fr)) (yj l i):=fun a c l hl hr hne n=>by
    have hr':=(hr.ext HX.out).ext ((Ext.refl wr).drewN n);rw[<-hl]at hr';have:=hr'.cut fr te n3 (by rw[hl];have:=HTE.out;omega);have e1:yq a c fr 1=Option.map (fun x=>x.add fr) a:=by unfold yq;rw[if_neg hne,Nat.mul_one]
    rw[e1,HTF.out]at this;rw[HTF.out];unfold yj;rw[<-HFR.out];exact this
   have HQ1:=hid (hq a1 c1 was L1.out H1.out n1);have HQ2:=hid (hq a2 c2 now L2.out H2.out n2);clear hq;go_quiet ((go_at_call 73;exact zdt (zcx _ _ _ _ _ (HQ1.out _) (HQ2.out _))));have hxq:Ext wr (wr.drewN nq):=(Ext.refl wr).drewN nq;have hws1:= @zfq was now i;have hws2:= @zgm was now i;have HR2:=hid (HQ2.out nq);have hc512:(yj now i).length=512:=ziz (by rw[L2.out];omega);have HOq:=hid (HO.out.ext hxq);have HXq:=hid (HX.out.trans hxq);generalize wr.drewN nq=wq at HR2 HOq HXq ⊢;by_cases hcd:yj was i=yj now i
   ·have hw1:=hws1 hcd;rw[<-HWL.out]at hw1;have hcb:decide (yj was i=yj now i)=true:=decide_eq_true hcd;rw[hcb];have HW1:=hid hw1;clear hws1 hws2 hcd hcb hw1 hxq hc512;go_wp2_with fail;refine⟨⟨i+1,ai,ci,by rw[HW1.out],rfl,by omega,by rw[HW1.out];exact HOq.out,HXq.out⟩,by simp only[intOf];omega⟩
   ·have hw1:=hws2 hcd;rw[<-HWL.out]at hw1;have hcb:decide (yj was i=yj now i)=false:=decide_eq_false hcd;rw[hcb];have HW1:=hid hw1;clear hws1 hws2 hcd hcb hw1 hxq;obtain⟨X,hX⟩ : ∃ X,X=yj now i:=⟨_,rfl⟩
    rw[<-hX]at HR2 HW1 hc512;clear hX;have hzq:=HXq.out.size;have hxa : ∀ o,Ext wq (wq.alloc o):=fun o=>(Ext.refl wq).alloc o;have HXA:=hid hxa;have HC512:=hid hc512;clear hc512 hxa;rw[HTF.out]at HR2;have HRW:=hid (show rWr.rd (wq.alloc (.cells #[.int .i64 (i:Int),.slice (Option.map (fun x=>x.add fr) a2) (te-fr) (c2-fr)] 220)) (fun j=>(Value.slice a2 8192 c2).ownBlock=some j) [.int .i64 (i:Int),.slice (Option.map (fun x=>x.add fr) a2) (te-fr) (c2-fr)] ((i:Int),X) from by
     refine⟨[.int .i64 (i:Int)],[.slice (Option.map (fun x=>x.add fr) a2) (te-fr) (c2-fr)],rfl,⟨rfl,show -9223372036854775808<=(i:Int)/\(i:Int)<=9223372036854775807 by omega⟩,_,rfl,?_,fun _ j hj=>?_⟩
     ·rw[HTF.out];exact HR2.out.alloc _
     ·show (Value.slice a2 8192 c2).ownBlock=some j;rw[<-hj];cases a2 with
      | none=>rfl
      | some a=>
       simp only[Value.ownBlock,Option.map_some,Addr.add];split <;> rfl)
    have HSL:=hid (show ∀ j,(Value.slice a2 8192 c2).ownBlock=some j->j<(wq.alloc (.cells #[.int .i64 (i:Int),.slice (Option.map (fun x=>x.add fr) a2) (te-fr) (c2-fr)] 220)).heap.size from fun j hj=>by
     have:=HS.out j hj;simp only[World.size_alloc];omega)
    have HZL:=hid (show W.heap.size<=(wq.alloc (.cells #[.int .i64 (i:Int),.slice (Option.map (fun x=>x.add fr) a2) (te-fr) (c2-fr)] 220)).heap.size by simp only[World.size_alloc];omega);go_wp2_with (first|(at_builtin;go_must (refine zuu rfl _ _ rfl W.heap.size (fun j=>(Value.slice a2 8192 c2).ownBlock=some j) _ WL rfl (HOq.out.ext (HXA.out _)) (i:Int) _ X wq.heap.size rfl (heap_alloc_new _ _) rfl HRW.out HSL.out (by omega) HZL.out ?_;intro v4 w4 k1 k2;have HK1:=hid k1;have HK2:=hid k2;obtain⟨a4,c4,rfl⟩:=k1.slice;clear k1 k2)))
    have ho4:=HK1.out;have hx4:Ext W w4:=HXq.out.trans (HXA.out _) |>.grown HK2.out fun j hj=>(HOq.out.lt j hj).1;rw[<-HW1.out]at ho4;have hle:WL.length+1=(ye was now (i+1)).length:=by rw[HW1.out,List.length_append];rfl
    refine⟨⟨i+1,a4,c4,by rw[hle],rfl,by omega,ho4,hx4⟩,by simp only[intOf];omega⟩
  ·have hie:i=16:=by omega
   subst hie;go_wp2_with fail;go_ret;exact⟨_,rfl,HO.out,HX.out⟩
end
end Go.Proofs.YtnadlnmclameiaaGreatDoor
