/- part 25 -/
import Derived.Test.YtnadlnmclameiaaGreatDoorTS05
import Derived.Test.YtnadlnmclameiaaGreatDoorTS24
set_option maxRecDepth 100000
set_option maxHeartbeats 8000000
set_option linter.all false
namespace Go.Proofs.YtnadlnmclameiaaGreatDoor
section
open Go.RowKit
def qw (q:Nat):List Bool:=List.replicate q true++List.replicate (28-q) false
def stL (q n:Nat):List Bool:=List.replicate q true++List.replicate (n-q) false++List.replicate (28-n) true
theorem jy : ∀ q,q<29->(qw q).length=28:=by decide +kernel
theorem zgp:qw 0=List.replicate 28 false:=by decide +kernel
theorem zpm : ∀ q,q<29->stL q q=qw 28:=by decide +kernel
theorem zu1 : ∀ q,q<29->stL q 28=qw q:=by decide +kernel
theorem zis : ∀ q,q<29->∀ q',q'<29->q'<=q->qo (qw q) (qw q')=List.range' q (28-q):=by decide +kernel
theorem zjy : ∀ q,q<29->∀ n,n<29->q+n<=28->xp (qw q) ((List.range' q (28-q)).take n)=qw (q+n):=by decide +kernel
theorem zvs : ∀ q,q<29->∀ n,n<28->q<=n->jk (stL q n) [((n:Int),(1:Int))]=some (stL q (n+1)):=by decide +kernel
theorem zmn : ∀ {q k n:Nat},n<=k->(List.range' q k).take n=List.range' q n
 | q,k,0,_=>by simp
 | q,k+1,n+1,h=>by
  rw[List.range'_succ,List.range'_succ,List.take_succ_cons,zmn (by omega)]
theorem zpx {rs:List (Nat × Nat)}{q k n:Nat} (hc:Canon rs) (hn:n<=k) (hf:flat rs=(List.range' q k).take n):rs=if n=0 then [] else [(q,n)]:=by
 rw[zmn hn]at hf;by_cases h:n=0
 ·rw[if_pos h];subst h;exact ze0 hc ⟨by simp,List.Pairwise.nil⟩ hf
 ·rw[if_neg h];refine ze0 hc ⟨fun r hr=>?_,List.pairwise_singleton _ _⟩ (hf.trans (jl (q,n)).symm);rw[List.mem_singleton.1 hr];show 1<=n;omega
end
section
open Go.RowKit Go.Maps Go.WideMaps
def kStr:KeyK ByteArray where
 t:=9
 law:=string_keyed Tryz.underlying9
 val:=.string
 lit s:=.string s.data.toList
 ok s:=s.size<=maxLen
 key h:=keyOf_string_mk Tryz.underlying9 h
 inj {x y} h:=by
  cases x;cases y;simp only[Lit.string.injEq]at h;have:=Array.toList_inj.1 h;rw[this]
end
section
open Go.RowKit Go.Maps
inductive FRol where
 | fs|cache|alloc|files|node|laid
structure FsS where
 sz:Option Nat
 now:Nat
 lst:Nat
 q:Nat
 dir:Option Nat
def seg0:ByteArray:=⟨#[115,101,103,46,48]⟩
def seg1:ByteArray:=⟨#[115,101,103,46,49]⟩
def ym:Option Nat->DataW Value
 | none=>.map []
 | some g=>.map [(.string segN,.held (.pointer (some ⟨g,0,none⟩)))]
theorem ziu (g:Nat):(ym (some g)).atKey (.string segN) (.held (.pointer none)) = .held (.pointer (some ⟨g,0,none⟩)):=by simp[ym,DataW.atKey,Lit.sameKey]
theorem zg2 (s:List UInt8):(ym none).atKey (.string s) (.held (.pointer none)) = .held (.pointer none):=by simp[ym,DataW.atKey,Lit.sameKey]
theorem zl6 {s:List UInt8} (h:s≠segN) (o:Option Nat):(ym o).atKey (.string s) (.held (.pointer none)) = .held (.pointer none):=by
 cases o with
 | none=>exact zg2 s
 | some g=>
  have h' : ¬ segN=s:=fun e=>h e.symm;simp[ym,DataW.atKey,Lit.sameKey,h,h']
structure FsP (W:World) (φ:Nat->Option FRol) (gf gl:Nat) (C:Int->Bk) (k:FsS) (gc ga gm:Nat) (gt:Option Nat) (gn:Nat) (qn:Option Nat) (lv:Value):Prop where
 head:W.heap[gf]? = some (.cells #[.pointer (some ⟨gl,0,none⟩),.pointer (some ⟨gc,0,none⟩),.pointer (some ⟨ga,0,none⟩),.map (some gm),.map gt,lv,.bool false] 150 (0,0))
 rf:φ gf=some .fs
 cache:CaAt (fun j=>φ j=some .cache) W gc k.q (fun i=>C (36+(i:Int)))
 alloc:MapAt (fun j=>φ j=some .alloc) W ga (qw k.now) (qw k.lst)
 files:W.ownsMap Tryz.prog 9 rawE gm 1 (ym (k.sz.map fun _=>gn))
 rm:φ gm=some .files
 node : ∀ s,k.sz=some s->NodeAt W gn qn (s:Int) (locs (nbN s))/\φ gn=some .node/\∀ j,qn=some j->φ j=some .node
 laid:RdB W lv (dirB k.dir)
 rl : ∀ j,lv.ownBlock=some j->φ j=some .laid
 lt : ∀ j,φ j≠none->j<W.heap.size
section
variable {w W W':World}{φ:Nat->Option FRol}{gf gl:Nat}{C C':Int->Bk}{k:FsS}{gc ga gm:Nat}{gt:Option Nat}{gn:Nat}{qn:Option Nat}{lv:Value}
theorem FsP.keep (h:FsP W φ gf gl C k gc ga gm gt gn qn lv) (hk:Keep (fun j=>φ j≠none) W W'):FsP W' φ gf gl C k gc ga gm gt gn qn lv where
 head:=(hk.block gf (by rw[h.rf];simp) (h.lt gf (by rw[h.rf];simp))).trans h.head
 rf:=h.rf
 cache:=h.cache.keep (hk.mono fun j hj _=>by rw[hj];simp)
 alloc:=h.alloc.keep (hk.mono fun j hj _=>by rw[hj];simp)
 files:=by
  obtain⟨es,clock,h1,h2⟩:=h.files;exact⟨es,clock,(hk.block gm (by rw[h.rm];simp) (h.lt gm (by rw[h.rm];simp))).trans h1,h2⟩
 rm:=h.rm
 node s hs:=by
  obtain⟨h1,h2,h3⟩:=h.node s hs;exact⟨h1.keep hk (by rw[h2];simp) (fun j hj=>by rw[h3 j hj];simp),h2,h3⟩
 laid:=Rd.carry0 h.laid hk.size fun _ j hj hl=>hk.block j (by rw[h.rl j hj];simp) hl
 rl:=h.rl
 lt j hj:=Nat.lt_of_lt_of_le (h.lt j hj) hk.size
theorem FsP.ext (h:FsP W φ gf gl C k gc ga gm gt gn qn lv) (hx:Ext W W'):FsP W' φ gf gl C k gc ga gm gt gn qn lv:=h.keep (hx.keep _)
theorem FsP.home (h:FsP W φ gf gl C k gc ga gm gt gn qn lv) (hc : ∀ i:Nat,i<k.q->C (36+(i:Int))=C' (36+(i:Int))):FsP W φ gf gl C' k gc ga gm gt gn qn lv:={ h with cache:=h.cache.congr hc }
theorem FsP.glt (h:FsP W φ gf gl C k gc ga gm gt gn qn lv):gf<W.heap.size:=h.lt gf (by rw[h.rf];simp)
theorem zpc (W:World):(zeroValue 167).run Tryz.prog W = .ok (.pointer none) W:=by kernel_rfl
theorem FsP.look (h:FsP W φ gf gl C k gc ga gm gt gn qn lv) {s:ByteArray} (hs:s.size<=maxLen) {v:Value} (hv:(ym (k.sz.map fun _=>gn)).atKey (.string s.data.toList) (.held (.pointer none)) = .held v) :
  (Instr.lookup 148 (.map (some gm)) (.string s) false).run Tryz.prog W = .ok v W:=by
 obtain⟨v',ps,hrun,hv'⟩:=h.files.lookup kStr.law Tryz.underlying148 (zpc W) (zd:=.held (.pointer none)) (zp:=[]) rfl (kStr.key (x:=s) hs);have hv':=zca hv';simp only[Prod.mk.injEq]at hv';have e:(ym (k.sz.map fun _=>gn)).atKey (kStr.lit s) (.held (.pointer none)) = .held v:=hv;rw[e]at hv';have:=DataW.held.inj hv'.1;rw[this];exact hrun
theorem FsP.look_seg (h:FsP W φ gf gl C k gc ga gm gt gn qn lv) {s:Nat} (hs:k.sz=some s):(Instr.lookup 148 (.map (some gm)) (.string seg0) false).run Tryz.prog W = .ok (.pointer (some ⟨gn,0,none⟩)) W:=
 h.look (by decide) (by rw[hs];exact ziu gn)
theorem FsP.look_no (h:FsP W φ gf gl C k gc ga gm gt gn qn lv) (hs:k.sz=none):(Instr.lookup 148 (.map (some gm)) (.string seg0) false).run Tryz.prog W = .ok (.pointer none) W:=
 h.look (by decide) (by rw[hs];exact zg2 _)
theorem FsP.look_other (h:FsP W φ gf gl C k gc ga gm gt gn qn lv) {s:ByteArray} (hs:s.size<=maxLen) (hne:s.data.toList≠segN):(Instr.lookup 148 (.map (some gm)) (.string s) false).run Tryz.prog W = .ok (.pointer none) W:=
 h.look hs (zl6 hne _)
end
structure FsAt (w W:World) (g:Nat) (ρ:Nat->Option DRol) (N:Nat) (d:Dv) (gl n:Nat) (C:Int->Bk) (P:(Int->Bk)->Prop) (φ:Nat->Option FRol) (gf:Nat) (k:FsS):Prop where
 put:PutG w W g ρ N d gl 64 n C P
 mem : ∃ gc ga gm gt gn qn lv,FsP W φ gf gl C k gc ga gm gt gn qn lv
 dis : ∀ j,φ j≠none->ρ j=none/\j≠gl/\w.heap.size<=j
section
variable {w W W':World}{g:Nat}{ρ:Nat->Option DRol}{N N':Nat}{d:Dv}{gl n:Nat}{C:Int->Bk}{P Q:(Int->Bk)->Prop}{φ:Nat->Option FRol}{gf:Nat}{k:FsS}
theorem FsAt.ext (h:FsAt w W g ρ N d gl n C P φ gf k) (hx:Ext W W'):FsAt w W' g ρ N d gl n C P φ gf k:=by
 obtain⟨gc,ga,gm,gt,gn,qn,lv,hm⟩:=h.mem;exact⟨h.put.ext hx,⟨gc,ga,gm,gt,gn,qn,lv,hm.ext hx⟩,h.dis⟩
def FsT (ρ:Nat->Option DRol) (gl:Nat) (φ:Nat->Option FRol):Nat->Prop:=fun j=>ρ j≠none\/j=gl\/φ j≠none
theorem FsAt.late (h:FsAt w W g ρ N d gl n C P φ gf k) {j:Nat} (hj:W.heap.size<=j) : ¬ FsT ρ gl φ j:=by
 obtain⟨gc,ga,gm,gt,gn,qn,lv,hm⟩:=h.mem;rintro (h1|h1|h1)
 ·exact h1 (h.put.hm.late (Ext.refl _) hj)
 ·have:=h.put.glt;omega
 ·have:=hm.lt j h1;omega
theorem FUse (h:FsAt w W g ρ N d gl n C P φ gf k) :
  Calls Tryz.prog 84 #[.pointer (some ⟨gf,0,none⟩)] W fun e W'=>e = .returned (.int .i64 0)/\W=W':=by
 obtain⟨gc,ga,gm,gt,gn,qn,lv,hm⟩:=h.mem;have c0:=(cr 0 hm.head)
 have c6:=(cr 6 hm.head)
 have HP:=hid h.put;clear h hm;go_enter Tryz.func84,Tryz.ntmps84;go_wp2_with fail;refine(zo1 HP.out.hm HP.out.up.up gl _ (by omega) n HP.out.log (-1) (by omega) (.inl (by omega))).mono ?_;rintro e w1 ⟨rfl,rfl⟩;go_wp2_with fail;go_ret;exact⟨rfl,rfl⟩
theorem zf0 {gc ga gm:Nat}{gt:Option Nat}{gn:Nat}{qn:Option Nat}{lv:Value} (hm:FsP W φ gf gl C k gc ga gm gt gn qn lv) :
  Calls Tryz.prog 94 #[.pointer (some ⟨gf,0,none⟩),.int .i64 2] W fun e W'=>e = .returned (.int .i64 2)/\Keep (fun j=>j≠gf) W W':=by
 have c6:=(cr 6 hm.head)
 have f6:=zg hm.head 6;clear hm;go_enter Tryz.func94,Tryz.ntmps94;go_wp2_with fail;go_ret;exact⟨rfl,(Keep.refl _ _).setCell (by simp) _⟩
theorem zo6 (h:FsAt w W g ρ N d gl n C P φ gf k) (s:ByteArray) (hs:s.size<=maxLen) (hn:s.data.toList≠segN\/k.sz=none/\s=seg0) :
  Calls Tryz.prog 79 #[.pointer (some ⟨gf,0,none⟩),.string s] W fun e W'=>e = .returned (.tuple #[.pointer none,.int .i64 80])/\W=W':=by
 obtain⟨gc,ga,gm,gt,gn,qn,lv,hm⟩:=h.mem;have c3:=(cr 3 hm.head)
 have hlk:(Instr.lookup 148 (.map (some gm)) (.string s) false).run Tryz.prog W = .ok (.pointer none) W:=by
  rcases hn with hn|⟨h1,rfl⟩
  ·exact hm.look_other hs hn
  ·exact hm.look_no h1
 have H:=hid h;clear h hm hn hs;go_enter Tryz.func79,Tryz.ntmps79;go_wp2_with fail;refine(FUse H.out).mono ?_;rintro e w1 ⟨rfl,rfl⟩;go_wp2_with fail;refine bodyPost_ret (v:=.tuple #[.pointer none,.int .i64 80]) (by simp[results,Tryz.results79,go_sem]) rfl ?_;exact⟨rfl,rfl⟩
theorem ze8 {gc ga gm:Nat}{gt:Option Nat}{gn:Nat}{qn:Option Nat}{lv:Value} (h:FsAt w W g ρ N d gl n C P φ gf k) (hm:FsP W φ gf gl C k gc ga gm gt gn qn lv) {s:Nat} (hs:k.sz=some s) :
  Calls Tryz.prog 79 #[.pointer (some ⟨gf,0,none⟩),.string seg0] W fun e W'=>e = .returned (.tuple #[.pointer (some ⟨gn,0,none⟩),.int .i64 0])/\W=W':=by
 have c3:=(cr 3 hm.head)
 have hlk:=hm.look_seg hs;have H:=hid h;clear h hm hs;generalize seg0=nm at hlk ⊢;go_enter Tryz.func79,Tryz.ntmps79;go_wp2_with fail;refine(FUse H.out).mono ?_;rintro e w1 ⟨rfl,rfl⟩;go_wp2_with fail;refine bodyPost_ret (v:=.tuple #[.pointer (some ⟨gn,0,none⟩),.int .i64 0]) (by simp[results,Tryz.results79,go_sem]) rfl ?_;exact⟨rfl,rfl⟩
theorem zkj (w:World):Calls Tryz.prog 80 #[.pointer none] w fun e w'=>e = .returned (.int .i64 0)/\w=w':=by
 go_enter Tryz.func80,Tryz.ntmps80;go_wp2_with fail;go_ret;exact⟨rfl,rfl⟩
theorem zd6 (h:FsAt w W g ρ N d gl n C P φ gf k) (s:ByteArray) (hs:s.size<=maxLen) (hn:s.data.toList≠segN\/k.sz=none/\s=seg0) :
  Calls Tryz.prog 38 #[.pointer (some ⟨gf,0,none⟩),.string s] W fun e W'=>e = .returned (.tuple #[.int .i64 0,.int .i64 80])/\W=W':=by
 have HF:=hid (zo6 h s hs hn);clear h hs hn;go_enter Tryz.func38,Tryz.ntmps38;go_wp2_with fail;refine HF.out.mono ?_;rintro e w1 ⟨rfl,rfl⟩;go_wp2_with fail;refine(zkj _).mono ?_;rintro e w1 ⟨rfl,rfl⟩;go_wp2_with fail;refine bodyPost_ret (v:=.tuple #[.int .i64 0,.int .i64 80]) (by simp[results,Tryz.results38,go_sem]) rfl ?_;exact⟨rfl,rfl⟩
theorem zrj (h:FsAt w W g ρ N d gl n C P φ gf k) {s:Nat} (hs:k.sz=some s) :
  Calls Tryz.prog 38 #[.pointer (some ⟨gf,0,none⟩),.string seg0] W fun e W'=>e = .returned (.tuple #[.int .i64 s,.int .i64 0])/\W=W':=by
 obtain⟨gc,ga,gm,gt,gn,qn,lv,hm⟩:=h.mem;have HF:=hid (ze8 h hm hs);have HN:=hid (hm.node s hs).1;clear h hm hs;generalize seg0=nm at HF ⊢;go_enter Tryz.func38,Tryz.ntmps38;go_wp2_with fail;refine HF.out.mono ?_;rintro e w1 ⟨rfl,rfl⟩;go_wp2_with fail;refine(zaf _ gn qn s _ HN.out).mono ?_;rintro e w1 ⟨rfl,rfl⟩;go_wp2_with fail;refine bodyPost_ret (v:=.tuple #[.int .i64 s,.int .i64 0]) (by simp[results,Tryz.results38,go_sem]) rfl ?_;exact⟨rfl,rfl⟩
end
end
section
open Go.RowKit Go.Maps
open Classical in
noncomputable def rel (φ:Nat->Option FRol) (T':Nat->Prop) (r:FRol):Nat->Option FRol:=fun j=>if T' j then some r else φ j
theorem qv {φ:Nat->Option FRol}{T':Nat->Prop}{r:FRol}{j:Nat} (h:T' j):rel φ T' r j=some r:=if_pos h
theorem qm {φ:Nat->Option FRol}{T':Nat->Prop}{r:FRol}{j:Nat} (h : ¬ T' j):rel φ T' r j=φ j:=if_neg h
theorem zb0 {φ:Nat->Option FRol}{T':Nat->Prop}{r r':FRol} (hT : ∀ j,T' j->φ j=none\/φ j=some r) {j:Nat} (h:φ j=some r'):rel φ T' r j=some r':=by
 by_cases e:T' j
 ·rw[qv e];rcases hT j e with h'|h'
  ·rw[h']at h;cases h
  ·rw[<-h',h]
 ·rw[qm e];exact h
theorem y7 {φ:Nat->Option FRol}{T':Nat->Prop}{r:FRol}{j:Nat} (h:rel φ T' r j≠none):T' j\/φ j≠none:=by
 by_cases e:T' j
 ·exact .inl e
 ·rw[qm e]at h;exact .inr h
def FNew (φ φ':Nat->Option FRol) (W:World):Prop:=∀ j,φ' j≠none->φ j≠none\/W.heap.size<=j
theorem FNew.refl (φ:Nat->Option FRol) (W:World):FNew φ φ W:=fun _ h=>.inl h
theorem FNew.trans {φ φ1 φ2:Nat->Option FRol}{W W1:World} (h:FNew φ φ1 W) (h2:FNew φ1 φ2 W1) (hz:W.heap.size<=W1.heap.size):FNew φ φ2 W:=fun j hj=>by
 rcases h2 j hj with h3|h3
 ·exact h j h3
 ·exact .inr (by omega)
theorem MapAt.mono' {T T':Nat->Prop}{W:World}{g:Nat}{now last:List Bool} (h:MapAt T W g now last) (hT : ∀ j,T j->T' j):MapAt T' W g now last:=by
 obtain⟨vn,vl,h1,h2,h3,h4,h5,h6,h7,h8⟩:=h;exact⟨vn,vl,h1,h2,h3,h4,h5,hT _ h6,fun k hk=>⟨(h7 k hk).1,(h7 k hk).2.1,hT _ (h7 k hk).2.2⟩,fun k hk=>⟨(h8 k hk).1,hT _ (h8 k hk).2⟩⟩
section
variable {w W W':World}{φ:Nat->Option FRol}{gf gl:Nat}{C C':Int->Bk}{k:FsS}{gc ga gm:Nat}{gt:Option Nat}{gn:Nat}{qn:Option Nat}{lv:Value}
theorem FsP.cacheTo (h:FsP W φ gf gl C k gc ga gm gt gn qn lv) {T':Nat->Prop}{q':Nat} (hT : ∀ j,T' j->(φ j=none\/φ j=some .cache)/\j<W'.heap.size) (hca:CaAt T' W' gc q' (fun i=>C' (36+(i:Int)))) (hk:Keep (fun j=>φ j≠none/\φ j≠some .cache) W W') :
  FsP W' (rel φ T' .cache) gf gl C' { k with q:=q' } gc ga gm gt gn qn lv:=by
 have hT1 : ∀ j,T' j->φ j=none\/φ j=some .cache:=fun j hj=>(hT j hj).1;have old : ∀ {j:Nat}{r:FRol},φ j=some r->rel φ T' .cache j=some r:=fun {j r} hj=>zb0 hT1 hj;have kb : ∀ {j:Nat}{r:FRol},φ j=some r->r≠ .cache->W'.heap[j]? = W.heap[j]?:=fun {j r} hj hr=>hk.block j ⟨by rw[hj];simp,by rw[hj];simpa using hr⟩ (h.lt j (by rw[hj];simp));exact {
  head:=(kb h.rf (by simp)).trans h.head
  rf:=old h.rf
  cache:=hca.mono fun j hj _=>qv hj
  alloc:=MapAt.mono' (h.alloc.keep (hk.mono fun j hj _=>⟨by rw[hj];simp,by rw[hj];simp⟩)) fun j hj=>old hj
  files:=by
   obtain⟨es,clock,h1,h2⟩:=h.files;exact⟨es,clock,(kb h.rm (by simp)).trans h1,h2⟩
  rm:=old h.rm
  node:=fun s hs=>by
   obtain⟨h1,h2,h3⟩:=h.node s hs;exact⟨h1.keep (S:=fun j=>φ j=some .node) (hk.mono fun j hj _=>⟨by rw[hj];simp,by rw[hj];simp⟩) h2 h3,old h2,fun j hj=>old (h3 j hj)⟩
  laid:=Rd.carry0 h.laid hk.size fun _ j hj hl=>kb (h.rl j hj) (by simp)
  rl:=fun j hj=>old (h.rl j hj)
  lt:=fun j hj=>by
   rcases y7 hj with hj|hj
   ·exact(hT j hj).2
   ·exact Nat.lt_of_lt_of_le (h.lt j hj) hk.size }
theorem zt5 (h:FsP W φ gf gl C k gc ga gm gt gn qn lv) (i:Nat) (hi:i<k.q) (hl:(C (36+(i:Int))).length=512) :
  Calls Tryz.prog 93 #[.agg #[.pointer (some ⟨gl,0,none⟩),.pointer (some ⟨gc,0,none⟩)],.int .i64 (16+i)] W fun e W'=>∃ v,e = .returned (.tuple #[v,.int .i64 0])/\OwnB W' W.heap.size v (C (36+(i:Int)))/\
   FsP W' φ gf gl C k gc ga gm gt gn qn lv/\(∀ j,v.ownBlock=some j->φ j=none)/\Keep (fun j=>¬ φ j=some .cache) W W':=by
 have H:=hid h;have HL:=hid hl;clear h hl;go_enter Tryz.func93,Tryz.ntmps93;go_wp2_with fail;obtain⟨w1,hw1⟩ : ∃ w1,w1=W.alloc (.cells #[.pointer (some ⟨gl,0,none⟩),.pointer (some ⟨gc,0,none⟩)] 145):=⟨_,rfl⟩
 have x1:Ext W w1:=by rw[hw1];exact(Ext.refl _).alloc _
 rw[<-hw1];clear hw1;have h1:=H.out.ext x1;refine(zrn h1.cache i hi).mono ?_;rintro e w2 ⟨v,rfl,hv,hca,hk⟩;have HV:=hid hv;have h2:=h1.cacheTo (C':=C) (W':=w2) (T':=fun j=>φ j=some .cache) (fun j hj=>⟨.inr hj,Nat.lt_of_lt_of_le (h1.lt j (by rw[hj];simp)) hk.size⟩) hca (hk.mono fun j hj _=>hj.2);have hrel:rel φ (fun j=>φ j=some .cache) .cache=φ:=funext fun j=>by
  by_cases e:φ j=some .cache
  ·rw[qv e,e]
  ·exact qm e
 rw[hrel]at h2;have H2:=hid h2;have HK:=hid ((x1.keep (fun j=>¬ φ j=some .cache)).trans hk);clear hv hca hk h1 h2 hrel;go_wp2_with fail;refine(zbg w2 v _ HV.out (by rw[HL.out];omega)).mono ?_;rintro e w3 hnb;obtain⟨v3,X,hX,rfl,ho,hb⟩:=NewB.open hnb;have HO:=hid ho;have HX:=hid hX;have hb':=Ext.of hb;have H3:=hid (H2.out.ext hb');have HE:=hid hb';clear hnb ho hX hb hb';obtain⟨a3,c3,rfl⟩:=OwnB.slice HO.out;go_wp2_with fail;refine bodyPost_ret (v:=.tuple #[.slice a3 X.length c3,.int .i64 0]) (by simp[results,Tryz.results93,go_sem]) rfl ?_;refine⟨_,rfl,by rw[<-HX.out];exact j4 HO.out HK.out.size,H3.out,fun j hj=>?_,HK.out.trans (HE.out.keep _)⟩;by_cases e:φ j=none
 ·exact e
 ·have h1:=(HO.out.lt j hj).1;have h2:=H2.out.lt j e;omega
theorem zrk {g N n:Nat}{ρ:Nat->Option DRol}{d:Dv}{H:Int->Bk} (hla:LogAt w W g ρ N d gl 64 n H) (hc:Calm d) (hN:N<=999990000) (h:FsP W φ gf gl C k gc ga gm gt gn qn lv) (hdis : ∀ j,φ j≠none->ρ j=none/\j≠gl/\w.heap.size<=j) (hq:k.q<16) (hC:C (36+(k.q:Int))=H (36+(k.q:Int))) :
  Calls Tryz.prog 93 #[.agg #[.pointer (some ⟨gl,0,none⟩),.pointer (some ⟨gc,0,none⟩)],.int .i64 (16+k.q)] W fun e W'=>∃ kb,e = .returned (.tuple #[.slice (some ⟨kb,0,none⟩) 512 512,.int .i64 0])/\W.heap.size<=kb/\RdB W' (.slice (some ⟨kb,0,none⟩) 512 512) (H (36+(k.q:Int)))/\(H (36+(k.q:Int))).length=512/\
   ∃ d' φ',LogAt w W' g ρ (N+1) d' gl 64 n H/\Calm d'/\FsP W' φ' gf gl C { k with q:=k.q+1 } gc ga gm gt gn qn lv/\FNew φ φ' W/\φ' kb=none/\(∀ j,φ j≠none->φ' j≠none)/\Keep (fun j=>¬ FsT ρ gl φ j) W W':=by
 have H0:=hid h;have HLA:=hid hla;have HC:=hid hc;have HCC:=hid hC;have HDIS:=hid hdis;clear h hla hc hC hdis;go_enter Tryz.func93,Tryz.ntmps93;go_wp2_with fail;obtain⟨b0,hb0⟩ : ∃ b0,b0=W.heap.size:=⟨_,rfl⟩
 obtain⟨w1,hw1⟩ : ∃ w1,w1=W.alloc (.cells #[.pointer (some ⟨gl,0,none⟩),.pointer (some ⟨gc,0,none⟩)] 145):=⟨_,rfl⟩
 have x1:Ext W w1:=by rw[hw1];exact(Ext.refl _).alloc _
 have r1:w1.heap[b0]? = some (.cells #[.pointer (some ⟨gl,0,none⟩),.pointer (some ⟨gc,0,none⟩)] 145 (0,0)):=by rw[hw1,hb0];exact heap_alloc_new _ _
 have z1:w1.heap.size=W.heap.size+1:=by rw[hw1];simp
 rw[<-hw1,<-hb0];have HB0:=hid hb0;have HZ1:=hid z1;clear hw1 hb0 z1;have h1:=H0.out.ext x1;refine(zpa h1.cache (16+k.q) (by omega) (by omega)).mono ?_;rintro e w2 ⟨rfl,rfl⟩;have HP1:=hid h1;have HR1:=hid r1;have HX1:=hid x1;have d0:=(cr 0 r1)
 clear h1 r1 x1;go_wp2_with fail;have hla1:LogAt w w1 g ρ N d gl 64 n H:={ HLA.out with hm:=HLA.out.hm.ext HX1.out,log:=HLA.out.log.ext HX1.out }
 refine(zuk hla1 HC.out (by omega) (by omega) (16+k.q) (by omega)).mono ?_;rintro e w2 ⟨kb,rfl,hkb,hrd,hlen,d2,hla2,hc2,hk2⟩;rw[show (20:Int)+(16+(k.q:Int))=36+(k.q:Int) by omega]at hrd hlen;have hgw:g<W.heap.size:=HLA.out.hm.glt;have hglw:gl<W.heap.size:=HLA.out.log.lt;have hgr:ρ g≠none:=by
  obtain⟨_,_,_,hh⟩:=HLA.out.hm.dv;rw[hh.rg];simp
 have hfree : ∀ j,φ j≠none->j≠g/\j≠gl:=fun j hj=>⟨fun e=>by subst e;exact hgr (HDIS.out _ hj).1,(HDIS.out j hj).2.1⟩
 have h2:=HP1.out.keep (hk2.mono fun j hj _=>hfree j hj);have r2:=(hk2.block b0 ⟨by have:=HB0.out;omega,by have:=HB0.out;omega⟩ (by have:=HB0.out;have:=HZ1.out;omega)).trans HR1.out;have e1:=(cr 1 r2)
 have HP2:=hid h2;have HLA2:=hid hla2;have HC2:=hid hc2;have HRD:=hid hrd;have HLEN:=hid hlen;have HKB:=hid hkb;have HK2:=hid hk2;have HFREE:=hid hfree;clear hrd hlen hla2 hc2 hk2 h2 r2 hla1 hfree d0 hkb hgr;go_wp2_with fail;have hxd:Ext w2 w2.drew:=by(exact Ext.xt)
 refine zr (fun w'=>w'.cell? ⟨b0,1,none⟩=some (.pointer (some ⟨gc,0,none⟩))) [5] (by kernel_rfl) (Ext.cellS hxd e1) (fun hS=>?_);(refine za 0 rfl ?_;(try simp only[Act.put,tq0,tq1,tq2,tq3,tq4,tq5]));(refine za 1 rfl ?_;(try simp only[Act.put,tq0,tq1,tq2,tq3,tq4,tq5]));(refine za 2 rfl ?_;(try simp only[Act.put,tq0,tq1,tq2,tq3,tq4,tq5]));(refine za 3 rfl ?_;(try simp only[Act.put,tq0,tq1,tq2,tq3,tq4,tq5]));refine ze (rs:=[4]) (by kernel_rfl) (by decide) (AllT.consS rfl (fun K hK=>?_) AllT.nil);go_simp;refine(zbg w2.drew _ _ (HRD.out.ext hxd) (by rw[HLEN.out];omega)).mono ?_;rintro e w3 ⟨v3,rfl,ho,hb⟩;have hb':=Ext.of hb;have hx23:Ext w2 w3:=hxd.trans hb';obtain⟨a3,c3,rfl⟩:=OwnB.slice ho;have HO:=hid ho;have HX23:=hid hx23;clear ho hb hb' hS hxd;(refine hK.out _ _ (Ext.cellS hx23 e1) (fun hS=>?_);clear hK K);clear hx23;refine ze (rs:=[5]) (by kernel_rfl) (by decide) (AllT.consF rfl rfl (fun K hK=>?_) AllT.nil);go_simp;have h3:=HP2.out.ext HX23.out;have hz:W.heap.size<=w2.heap.size:=Nat.le_trans HX1.out.size HK2.out.size;have hnew : ∀ j,w1.heap.size<=j->φ j=none:=fun j hj=>by
  by_cases e:φ j=none
  ·exact e
  ·have:=HP1.out.lt j e;omega
 have hO : ∀ j,(Value.slice a3 (H (36+(k.q:Int))).length c3).ownBlock=some j->φ j=none/\w2.heap.size<=j/\j<w3.heap.size:=fun j hj=>by
  obtain⟨q1,q2⟩:=HO.out.lt j hj;have:w2.heap.size<=j:=q1;exact⟨hnew j (Nat.le_trans HK2.out.size this),this,q2⟩
 refine(zuq h3.cache k.q (Nat.le_refl _) hq a3 _ c3 _ (zk HO.out) (fun j hj=>⟨by rw[(hO j hj).1];simp,(hO j hj).2.2⟩)).mono ?_;rintro e w4 ⟨⟨u,rfl⟩,hca,hk4⟩;rw[Nat.max_eq_right (by omega)]at hca;have hkeep4:Keep (fun j=>φ j≠none/\φ j≠some .cache) w3 w4:=hk4.mono fun j hj _=>⟨hj.2,fun hh=>hj.1 (hO j hh).1⟩
 have hca':=hca.congr (f':=fun i=>C (36+(i:Int))) fun i hi=>by
  unfold updN;by_cases e:i=k.q
  ·subst e;rw[if_pos rfl];exact HCC.out.symm
  ·rw[if_neg e]
 have h4:=h3.cacheTo (C':=C) (fun j hj=>(show (φ j=none\/φ j=some .cache)/\j<w4.heap.size by
  rcases hj with hj|hj|hj
  ·exact⟨.inr hj,Nat.lt_of_lt_of_le (h3.lt j (by rw[hj];simp)) hk4.size⟩
  ·exact⟨.inl (hO j hj).1,Nat.lt_of_lt_of_le (hO j hj).2.2 hk4.size⟩
  ·exact⟨.inl (hnew j (Nat.le_trans HK2.out.size (Nat.le_trans HX23.out.size hj.1))),hj.2⟩)) hca' hkeep4
 have hkk:Keep (fun j=>φ j≠some .cache/\(Value.slice a3 (H (36+(k.q:Int))).length c3).ownBlock≠some j) w2 w4:=(HX23.out.keep _).trans hk4;have HCAP:=hid h4;have HKK:=hid hkk;have HO':=hid hO;have HNW:=hid hnew;clear h3 hca hca' hk4 hkeep4 h4 hkk hO hnew;(refine hK.out _ _ ?_;clear hK K);refine zn (by kernel_rfl) (NoPanic.normal ?_) _;go_wp2_with fail;refine bodyPost_ret (v:=.tuple #[.slice (some ⟨kb,0,none⟩) 512 512,.int .i64 0]) (by simp[results,Tryz.results93,go_sem]) rfl ?_;have hkbn : ∀ j,(Value.slice a3 (H (36+(k.q:Int))).length c3).ownBlock=some j->j≠kb:=fun j hj e=>by
  have h1:=(HO'.out j hj).2.1;have h2:=Rd.block_lt HRD.out (by rw[HLEN.out];omega) kb rfl;omega
 have hkb2:kb<w2.heap.size:=Rd.block_lt HRD.out (by rw[HLEN.out];omega) kb rfl;have hkbφ:φ kb=none:=HNW.out kb HKB.out;have hkeep24 : ∀ j,¬ FsT ρ gl φ j->j<W.heap.size->φ j≠some .cache/\(Value.slice a3 (H (36+(k.q:Int))).length c3).ownBlock≠some j:=fun j hj hl=>⟨fun e=>hj (.inr (.inr (by rw[e];simp))),fun e=>by have:=(HO'.out j e).2.1;omega⟩
 refine⟨kb,rfl,by have:=HZ1.out;have:=HKB.out;omega,Rd.carry0 HRD.out HKK.out.size fun _ j hj hl=>HKK.out.block j ?_ hl,HLEN.out,d2,_,?_,HC2.out,HCAP.out,fun j hj=>?_,?_,fun j hj=>?_,?_⟩
 ·simp only[Value.ownBlock,Option.some.injEq,Option.map_some]at hj;subst hj;exact⟨by rw[hkbφ];simp,fun e=>hkbn _ e rfl⟩
 ·refine HLA2.out.keepT (HKK.out.mono fun j hj hl=>?_);have hjw:j<W.heap.size:=by
   rcases hj with (hj|hj)|hj
   ·by_cases e:j<W.heap.size
    ·exact e
    ·exact absurd (HLA.out.hm.late (Ext.refl _) (by omega)) hj
   ·have:=HLA.out.hm.ex.size;omega
   ·omega
  refine⟨fun e=>?_,fun e=>by have:=(HO'.out j e).2.1;omega⟩;obtain⟨q1,q2,q3⟩:=HDIS.out j (by rw[e];simp);rcases hj with (hj|hj)|hj
  ·exact hj q1
  ·omega
  ·exact q2 hj
 ·rcases y7 hj with (hj|hj|hj)|hj
  ·exact .inl (by rw[hj];simp)
  ·exact .inr (Nat.le_trans hz (HO'.out j hj).2.1)
  ·exact .inr (by have:=HX23.out.size;omega)
  ·exact .inl hj
 ·rw[qm]
  ·exact hkbφ
  ·rintro (hj|hj|hj)
   ·rw[hkbφ]at hj;cases hj
   ·exact hkbn _ hj rfl
   ·have:=HX23.out.size;omega
 ·by_cases e:(φ j=some .cache\/(Value.slice a3 (H (36+(k.q:Int))).length c3).ownBlock=some j\/(w3.heap.size<=j/\j<w4.heap.size))
  ·rw[qv e];simp
  ·rw[qm e];exact hj
 ·have hk1:Keep (fun j=>¬ FsT ρ gl φ j/\j<W.heap.size) W w2:=(HX1.out.keep _).trans (HK2.out.mono fun j hj hl=>⟨fun e=>?_,fun e=>hj.1 (.inr (.inl e))⟩)
  ·exact(hk1.trans (HKK.out.mono fun j hj _=>hkeep24 j hj.1 hj.2)).mono fun j hj hl=>⟨hj,hl⟩
  ·subst e;obtain⟨_,_,_,hh⟩:=HLA.out.hm.dv;exact hj.1 (.inl (by rw[hh.rg];simp))
end
structure FsB (w W:World) (g:Nat) (ρ:Nat->Option DRol) (N:Nat) (d:Dv) (gl n:Nat) (C:Int->Bk) (P:(Int->Bk)->Prop) (φ:Nat->Option FRol) (gf:Nat) (k:FsS) (gc ga gm:Nat) (gt:Option Nat) (gn:Nat) (qn:Option Nat) (lv:Value):Prop where
 put:PutG w W g ρ N d gl 64 n C P
 mem:FsP W φ gf gl C k gc ga gm gt gn qn lv
 dis : ∀ j,φ j≠none->ρ j=none/\j≠gl/\w.heap.size<=j
section
variable {w W W':World}{g:Nat}{ρ:Nat->Option DRol}{N N':Nat}{d:Dv}{gl n:Nat}{C:Int->Bk}{P Q:(Int->Bk)->Prop}{φ:Nat->Option FRol}{gf:Nat}{k:FsS}{gc ga gm:Nat}{gt:Option Nat}{gn:Nat}{qn:Option Nat}{lv:Value}
theorem FsB.at (h:FsB w W g ρ N d gl n C P φ gf k gc ga gm gt gn qn lv):FsAt w W g ρ N d gl n C P φ gf k:=⟨h.put,⟨gc,ga,gm,gt,gn,qn,lv,h.mem⟩,h.dis⟩
theorem FsB.ext (h:FsB w W g ρ N d gl n C P φ gf k gc ga gm gt gn qn lv) (hx:Ext W W'):FsB w W' g ρ N d gl n C P φ gf k gc ga gm gt gn qn lv:=⟨h.put.ext hx,h.mem.ext hx,h.dis⟩
theorem FsB.keep (h:FsB w W g ρ N d gl n C P φ gf k gc ga gm gt gn qn lv) (hk:Keep (fun j=>FsT ρ gl φ j\/j<w.heap.size) W W'):FsB w W' g ρ N d gl n C P φ gf k gc ga gm gt gn qn lv:=by
 refine⟨h.put.kept (hk.mono fun j hj _=>?_),h.mem.keep (hk.mono fun j hj _=>.inl (.inr (.inr hj))),h.dis⟩;rcases hj with (hj|hj)|hj
 ·exact .inl (.inl hj)
 ·exact .inr hj
 ·exact .inl (.inr (.inl hj))
theorem FsB.late (h:FsB w W g ρ N d gl n C P φ gf k gc ga gm gt gn qn lv) {j:Nat} (hj:W.heap.size<=j):ρ j=none/\φ j=none/\j≠gl:=by
 refine⟨h.put.hm.late (Ext.refl _) hj,?_,by have:=h.put.glt;omega⟩;by_cases e:φ j=none
 ·exact e
 ·have:=h.mem.lt j e;omega
structure FStep (W W':World) (ρ ρ':Nat->Option DRol) (gl:Nat) (φ φ':Nat->Option FRol):Prop where
 rol:RolNew ρ ρ' W
 new:FNew φ φ' W
 keep:Keep (fun j=>¬ FsT ρ gl φ j) W W'
theorem FStep.refl (W:World) (ρ:Nat->Option DRol) (gl:Nat) (φ:Nat->Option FRol):FStep W W ρ ρ gl φ φ:=⟨RolNew.refl _ _,FNew.refl _ _,Keep.refl _ _⟩
theorem FStep.free {W W':World}{ρ ρ':Nat->Option DRol}{φ φ':Nat->Option FRol} (h:FStep W W' ρ ρ' gl φ φ') {j:Nat} (hj : ¬ FsT ρ gl φ j) (hl:j<W.heap.size) : ¬ FsT ρ' gl φ' j:=by
 rintro (h1|h1|h1)
 ·rcases h.rol j h1 with h2|h2
  ·exact hj (.inl h2)
  ·omega
 ·exact hj (.inr (.inl h1))
 ·rcases h.new j h1 with h2|h2
  ·exact hj (.inr (.inr h2))
  ·omega
theorem FStep.trans {W W1 W2:World}{ρ ρ1 ρ2:Nat->Option DRol}{φ φ1 φ2:Nat->Option FRol} (h:FStep W W1 ρ ρ1 gl φ φ1) (h2:FStep W1 W2 ρ1 ρ2 gl φ1 φ2):FStep W W2 ρ ρ2 gl φ φ2:=by
 refine⟨fun j hj=>?_,h.new.trans h2.new h.keep.size,?_⟩
 ·rcases h2.rol j hj with h3|h3
  ·exact h.rol j h3
  ·exact .inr (Nat.le_trans h.keep.size h3)
 ·have:Keep (fun j=>¬ FsT ρ gl φ j/\j<W.heap.size) W W2:=(h.keep.mono fun j hj _=>hj.1).trans (h2.keep.mono fun j hj _=>h.free hj.1 hj.2);exact this.mono fun j hj hl=>⟨hj,hl⟩
theorem FStep.ext {W W1 W2:World}{ρ ρ1:Nat->Option DRol}{φ φ1:Nat->Option FRol} (h:FStep W W1 ρ ρ1 gl φ φ1) (hx:Ext W1 W2):FStep W W2 ρ ρ1 gl φ φ1:=h.trans ⟨RolNew.refl _ _,FNew.refl _ _,hx.keep _⟩
theorem FStep.xt {W W1 W2:World}{ρ ρ1:Nat->Option DRol}{φ φ1:Nat->Option FRol} (hx:Ext W W1) (h:FStep W1 W2 ρ ρ1 gl φ φ1):FStep W W2 ρ ρ1 gl φ φ1:=(FStep.mk (RolNew.refl _ _) (FNew.refl _ _) (hx.keep _)).trans h
theorem FSet (h:FsB w W g ρ N d gl n C P φ gf k gc ga gm gt gn qn lv) (hN:N<=999990000) (i:Nat) (hi:i<=k.q) (hi16:i<16) (va:Option Addr) (vc:Nat) (data:List UInt8) (hv:RdB W (.slice va 512 vc) data) (hvb : ∀ j,(Value.slice va 512 vc).ownBlock=some j->¬ FsT ρ gl φ j) (hd:data.length=512)
  (hP : ∀ s s',P s->(∀ j:Int,j≠36+i->s' j=s j)->s' (36+i)=data->P s') :
  Calls Tryz.prog 95 #[.agg #[.pointer (some ⟨gl,0,none⟩),.pointer (some ⟨gc,0,none⟩)],.int .i64 (16+i),.slice va 512 vc] W fun e W'=>∃ ρ' d' φ',FStep W W' ρ ρ' gl φ φ'/\
   ((e = .returned (.int .i64 0)/\FsB w W' g ρ' (N+2) d' gl n (fun j=>if j=36+(i:Int) then data else C j) P φ' gf { k with q:=max k.q (i+1) } gc ga gm gt gn qn lv/\(d.fuse = -1->d'.fuse = -1))\/
    (e = .returned (.int .i64 2)/\d.fuse≠ -1/\DownAt w W' g ρ' (N+2) d' 64 (fun s=>LogS 64 s n s/\P s)/\FsP W' φ' gf gl C k gc ga gm gt gn qn lv/\∀ j,φ' j≠none->ρ' j=none/\w.heap.size<=j)):=by
 have H0:=hid h;have HV:=hid hv;have HVB:=hid hvb;have HD:=hid hd;have HPP:=hid hP;clear h hv hvb hd hP;go_enter Tryz.func95,Tryz.ntmps95;go_wp2_with fail;obtain⟨b0,hb0⟩ : ∃ b0,b0=W.heap.size:=⟨_,rfl⟩
 obtain⟨w1,hw1⟩ : ∃ w1,w1=W.alloc (.cells #[.pointer (some ⟨gl,0,none⟩),.pointer (some ⟨gc,0,none⟩)] 145):=⟨_,rfl⟩
 have x1:Ext W w1:=by rw[hw1];exact(Ext.refl _).alloc _
 have r1:w1.heap[b0]? = some (.cells #[.pointer (some ⟨gl,0,none⟩),.pointer (some ⟨gc,0,none⟩)] 145 (0,0)):=by rw[hw1,hb0];exact heap_alloc_new _ _
 have z1:w1.heap.size=W.heap.size+1:=by rw[hw1];simp
 rw[<-hw1,<-hb0];have HB0:=hid hb0;have HZ1:=hid z1;have b0ρ:=H0.out.late (j:=b0) (by omega);clear hw1 hb0 z1;have h1:=H0.out.ext x1;refine(GPut h1.put (by omega) (by omega) (16+i) (by omega) va vc data (HV.out.ext x1) (fun j hj=>?_) HD.out (fun s s' h1 h2 h3=>?_)).mono ?_
 ·by_cases e:ρ j=none
  ·exact e
  ·exact absurd (.inl e) (HVB.out j hj)
 ·refine HPP.out s s' h1 (fun j hj=>h2 j (by omega)) ?_;rw[<-h3];congr 1;omega
 rintro e w2 ⟨ρ2,d2,hr2,hk2,hcase⟩;have hρ2 : ∀ j,ρ2 j≠none->ρ j≠none\/(w1.heap.size<=j/\j<w2.heap.size):=fun j hj=>by
  rcases hr2 j hj with h|h
  ·exact .inl h
  ·refine .inr ⟨h,?_⟩;rcases hcase with⟨-,hp,-⟩|⟨-,-,hp⟩
   ·exact hp.hm.dv.rlt j hj
   ·exact hp.hm.dv.rlt j hj
 have hb2:=(hk2.block b0 ⟨b0ρ.1,b0ρ.2.2⟩ (blt r1)).trans r1;have e1:=(cr 1 hb2)
 have hm2:=h1.mem.keep (hk2.mono fun j hj _=>⟨(H0.out.dis j hj).1,(H0.out.dis j hj).2.1⟩);have hv2:RdB w2 (.slice va 512 vc) data:=Rd.carry0 (HV.out.ext x1) hk2.size fun _ j hj hl=>hk2.block j ⟨by
  by_cases e:ρ j=none
  ·exact e
  ·exact absurd (.inl e) (HVB.out j hj),fun e=>HVB.out j hj (.inr (.inl e))⟩ hl
 have hdis2 : ∀ j,φ j≠none->ρ2 j=none/\j≠gl/\w.heap.size<=j:=fun j hj=>⟨ky hr2 (H0.out.dis j hj).1 (h1.mem.lt j hj),(H0.out.dis j hj).2⟩
 have hst2:FStep W w2 ρ ρ2 gl φ φ:=FStep.xt x1 ⟨hr2,FNew.refl _ _,hk2.mono fun j hj _=>⟨by
  by_cases e:ρ j=none
  ·exact e
  ·exact absurd (.inl e) hj,fun e=>hj (.inr (.inl e))⟩⟩
 have HM2:=hid hm2;have HV2:=hid hv2;have HDIS2:=hid hdis2;have HST2:=hid hst2;have HR2:=hid hρ2;clear r1 h1 hr2 hk2 hb2 hm2 hv2 hdis2 hst2 hρ2 b0ρ;rcases hcase with⟨rfl,hp,hf⟩|⟨rfl,hf,hdn⟩
 ·have HP2:=hid hp;have HF2:=hid hf;clear hp hf;go_wp2_with fail;have hxd:Ext w2 w2.drew:=by(exact Ext.xt)
  refine zr (fun w'=>w'.cell? ⟨b0,1,none⟩=some (.pointer (some ⟨gc,0,none⟩))) [5] (by kernel_rfl) (Ext.cellS hxd e1) (fun hS=>?_);(refine za 0 rfl ?_;(try simp only[Act.put,tq0,tq1,tq2,tq3,tq4,tq5]));(refine za 1 rfl ?_;(try simp only[Act.put,tq0,tq1,tq2,tq3,tq4,tq5]));(refine za 2 rfl ?_;(try simp only[Act.put,tq0,tq1,tq2,tq3,tq4,tq5]));(refine za 3 rfl ?_;(try simp only[Act.put,tq0,tq1,tq2,tq3,tq4,tq5]));refine ze (rs:=[4]) (by kernel_rfl) (by decide) (AllT.consS rfl (fun K hK=>?_) AllT.nil);go_simp;refine(zbg w2.drew _ _ (HV2.out.ext hxd) (by rw[HD.out];omega)).mono ?_;rintro e w3 ⟨v3,rfl,ho,hb⟩;have hb':=Ext.of hb;have hx23:Ext w2 w3:=hxd.trans hb';obtain⟨a3,c3,rfl⟩:=OwnB.slice ho;have HO:=hid ho;have HX23:=hid hx23;clear ho hb hb' hS hxd;(refine hK.out _ _ (Ext.cellS hx23 e1) (fun hS=>?_);clear hK K);clear hx23;refine ze (rs:=[5]) (by kernel_rfl) (by decide) (AllT.consF rfl rfl (fun K hK=>?_) AllT.nil);go_simp;have h3:=HM2.out.ext HX23.out;have hnew : ∀ j,w2.heap.size<=j->φ j=none/\ρ2 j=none:=fun j hj=>by
   refine⟨?_,HP2.out.hm.late (Ext.refl _) hj⟩;by_cases e:φ j=none
   ·exact e
   ·have:=HM2.out.lt j e;omega
  have hO : ∀ j,(Value.slice a3 data.length c3).ownBlock=some j->w2.heap.size<=j/\j<w3.heap.size:=fun j hj=>HO.out.lt j hj;refine(zuq h3.cache i hi hi16 a3 _ c3 _ (zk HO.out) (fun j hj=>⟨by rw[(hnew j (hO j hj).1).1];simp,(hO j hj).2⟩)).mono ?_;rintro e w4 ⟨⟨u,rfl⟩,hca,hk4⟩;have hkeep4:Keep (fun j=>φ j≠none/\φ j≠some .cache) w3 w4:=hk4.mono fun j hj _=>⟨hj.2,fun hh=>hj.1 (hnew j (hO j hh).1).1⟩
  have hca':=hca.congr (f':=fun j=>(fun x:Int=>if x=36+(i:Int) then data else C x) (36+(j:Int))) fun j hj=>by
   unfold updN;by_cases e:j=i
   ·subst e;rw[if_pos rfl];exact(if_pos rfl).symm
   ·rw[if_neg e];exact(if_neg (by omega)).symm
  have h4:=h3.cacheTo (C':=fun x:Int=>if x=36+(i:Int) then data else C x) (fun j hj=>(show (φ j=none\/φ j=some .cache)/\j<w4.heap.size by
   rcases hj with hj|hj|hj
   ·exact⟨.inr hj,Nat.lt_of_lt_of_le (h3.lt j (by rw[hj];simp)) hk4.size⟩
   ·exact⟨.inl (hnew j (hO j hj).1).1,Nat.lt_of_lt_of_le (hO j hj).2 hk4.size⟩
   ·exact⟨.inl (hnew j (Nat.le_trans HX23.out.size hj.1)).1,hj.2⟩)) hca' hkeep4
  have hkk:Keep (fun j=>φ j≠some .cache/\(Value.slice a3 data.length c3).ownBlock≠some j) w2 w4:=(HX23.out.keep _).trans hk4;have hφ4 : ∀ j,rel φ (fun j=>φ j=some .cache\/(Value.slice a3 data.length c3).ownBlock=some j\/(w3.heap.size<=j/\j<w4.heap.size)) .cache j≠none->φ j≠none\/w2.heap.size<=j:=fun j hj=>by
   rcases y7 hj with (hj|hj|hj)|hj
   ·exact .inl (by rw[hj];simp)
   ·exact .inr (hO j hj).1
   ·exact .inr (Nat.le_trans HX23.out.size hj.1)
   ·exact .inl hj
  have hput:=HP2.out.kept (hkk.mono fun j hj hl=>⟨fun e=>by
   obtain⟨q1,q2,q3⟩:=HDIS2.out j (by rw[e];simp);rcases hj with (hj|hj)|hj
   ·exact hj q1
   ·omega
   ·exact q2 hj,fun e=>by have:=(hO j e).1;omega⟩)
  have hst4:FStep w2 w4 ρ2 ρ2 gl φ (rel φ (fun j=>φ j=some .cache\/(Value.slice a3 data.length c3).ownBlock=some j\/(w3.heap.size<=j/\j<w4.heap.size)) .cache):=⟨RolNew.refl _ _,hφ4,hkk.mono fun j hj hl=>⟨fun e=>hj (.inr (.inr (by rw[e];simp))),fun e=>by have:=(hO j e).1;omega⟩⟩
  have hdis4 : ∀ j,rel φ (fun j=>φ j=some .cache\/(Value.slice a3 data.length c3).ownBlock=some j\/(w3.heap.size<=j/\j<w4.heap.size)) .cache j≠none->ρ2 j=none/\j≠gl/\w.heap.size<=j:=fun j hj=>by
   rcases hφ4 j hj with h|h
   ·exact HDIS2.out j h
   ·exact⟨(hnew j h).2,by have:=HP2.out.glt;omega,by have:=HP2.out.hm.ex.size;omega⟩
  have HCAP:=hid h4;have HPUT:=hid hput;have HST4:=hid (HST2.out.trans hst4);have HDIS4:=hid hdis4;clear h3 hca hca' hk4 hkeep4 h4 hkk hO hnew hφ4 hput hst4 hdis4;(refine hK.out _ _ ?_;clear hK K);refine zn (by kernel_rfl) (NoPanic.normal ?_) _;go_wp2_with fail;go_ret;refine⟨ρ2,d2,_,HST4.out,.inl ⟨rfl,⟨HPUT.out.home fun j _ _=>?_,HCAP.out,HDIS4.out⟩,HF2.out⟩⟩;show (if j=20+(16+(i:Int)) then data else C j)=if j=36+(i:Int) then data else C j
  rw[show (20:Int)+(16+(i:Int))=36+(i:Int) by omega]
 ·have HDN:=hid hdn;have HF2:=hid hf;clear hdn hf;go_wp2_with fail;go_ret;exact⟨ρ2,d2,φ,HST2.out,.inr ⟨rfl,HF2.out,HDN.out,HM2.out,fun j hj=>⟨(HDIS2.out j hj).1,(HDIS2.out j hj).2.2⟩⟩⟩
end
end
end Go.Proofs.YtnadlnmclameiaaGreatDoor
