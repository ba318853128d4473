/- part 37 -/
import Derived.Test.YtnadlnmclameiaaGreatDoorTS36
set_option maxRecDepth 100000
set_option maxHeartbeats 8000000
set_option linter.all false
namespace Go.Proofs.YtnadlnmclameiaaGreatDoor
section
open Go.RowKit
theorem zh6 {w:World}{ops:Array Oper}{o:Oper}{a:Act}{K:Act->World->Prop}{Q:Exit->Act->World->Prop}{E:Prop} (hgd:o.guard=none) (s x:Operand)
  (ho:o.op = .call { callee:=.builtin .append,args:=#[s,x],argTypes:=#[23,23] }) (base:Nat)
  (v:Value) (xs:List Int) (hs:a.eval s=v) (happ:OwnS rI 3 w base (fun _=>False) v xs)
  (n:Int) (hn : -9223372036854775808<=n/\n<=9223372036854775807) (gb:Nat) (hx:a.eval x = .slice (some ⟨gb,0,none⟩) 1 1)
  (hrow:w.heap[gb]? = some (.cells #[.int .i64 n] 3 (0,0))) (hl:xs.length<=1000000) (hbase:base<=w.heap.size)
  (h : ∀ v' w',OwnS rI 3 w' base (fun _=>False) v' (xs++[n])->w.grownBy w' v.ownBlock->(∀ k,v'.ownBlock=some k->v.ownBlock=some k\/w.heap.size<=k)->K (a.put o.dst v') w') :
  if Region.wanted o (yielded ops a.tmps)=true then Oper.wp Tryz.prog o a w K Q else E:=by
 have hw:Region.wanted o (yielded ops a.tmps)=true:=by simp[Region.wanted,hgd]
 rw[if_pos hw];refine za6 rI s x 23 23 3 _ 8 ho Tryz.underlying23 zht rfl base _ v xs hs happ _ [([.int .i64 n],n)] hx ?_ ?_ (fun _ h=>h.elim) (by simp;omega) (by simp;omega) hbase ?_
 ·refine za7 Tryz.underlying23 hrow (fun u hu=>?_) rfl;simp only[cellsOf,List.flatMap_cons,List.flatMap_nil,List.append_nil,List.mem_cons,List.not_mem_nil,or_false]at hu;rcases hu with rfl;rfl
 ·intro p hp;obtain rfl:=List.mem_singleton.1 hp;exact⟨rfl,hn⟩
 ·intro v' w' k1 k2 k3;exact h v' w' k1 k2 k3
theorem zls {w:World}{ops:Array Oper}{o:Oper}{a:Act}{K:Act->World->Prop}{Q:Exit->Act->World->Prop}{E:Prop} (hgd:o.guard=none) (s x:Operand)
  (ho:o.op = .call { callee:=.builtin .append,args:=#[s,x],argTypes:=#[47,47] }) (base:Nat) (S:Nat->Prop)
  (v:Value) (xs:List Ent) (hs:a.eval s=v) (happ:OwnS rEnt 100 w base S v xs)
  (e:Ent) (fv:Value) (h0 : -9223372036854775808<=e.1/\e.1<=9223372036854775807) (h1:e.2.1.size<=9223372036854775807) (h2 : -9223372036854775808<=e.2.2.1/\e.2.2.1<=9223372036854775807) (h3:e.2.2.2.1.size<=9223372036854775807) (h4 : -9223372036854775808<=e.2.2.2.2.1/\e.2.2.2.2.1<=9223372036854775807) (h5:RdS rF w S fv e.2.2.2.2.2) (hfv:fv.oneCell'=true) (gb:Nat) (hx:a.eval x = .slice (some ⟨gb,0,none⟩) 1 1)
  (hrow:w.heap[gb]? = some (.cells #[.int .i64 e.1,.string e.2.1,.int .i64 e.2.2.1,.string e.2.2.2.1,.int .i64 e.2.2.2.2.1,fv] 100 (0,0))) (hSlt : ∀ k,S k->k<w.heap.size) (hl:xs.length<=1000000) (hbase:base<=w.heap.size)
  (h : ∀ v' w',OwnS rEnt 100 w' base S v' (xs++[e])->w.grownBy w' v.ownBlock->(∀ k,v'.ownBlock=some k->v.ownBlock=some k\/w.heap.size<=k)->K (a.put o.dst v') w') :
  if Region.wanted o (yielded ops a.tmps)=true then Oper.wp Tryz.prog o a w K Q else E:=by
 have hw:Region.wanted o (yielded ops a.tmps)=true:=by simp[Region.wanted,hgd]
 rw[if_pos hw];refine za6 rEnt s x 47 47 100 _ 80 ho Tryz.underlying47 zhu rfl base S v xs hs happ _ [([.int .i64 e.1,.string e.2.1,.int .i64 e.2.2.1,.string e.2.2.2.1,.int .i64 e.2.2.2.2.1,fv],e)] hx ?_ ?_ hSlt (by simp;omega) (by simp;omega) hbase ?_
 ·refine za7 Tryz.underlying47 hrow (fun u hu=>?_) rfl;simp only[cellsOf,List.flatMap_cons,List.flatMap_nil,List.append_nil,List.mem_cons,List.not_mem_nil,or_false]at hu;rcases hu with rfl|rfl|rfl|rfl|rfl|rfl
  ·rfl
  ·rfl
  ·rfl
  ·rfl
  ·rfl
  ·exact hfv
 ·intro p hp;obtain rfl:=List.mem_singleton.1 hp;exact⟨[_],_,rfl,⟨rfl,h0⟩,[_],_,rfl,⟨rfl,h1⟩,[_],_,rfl,⟨rfl,h2⟩,[_],_,rfl,⟨rfl,h3⟩,[_],_,rfl,⟨rfl,h4⟩,h5⟩
 ·intro v' w' k1 k2 k3;exact h v' w' k1 k2 k3
theorem IxP.storeStr {w:World}{g:Nat}{ρ:Nat->Option Rol}{ns nk:Nat}{x:Ix}{va:Value}{gs gk:Nat}{ms mk:ByteArray->Option Value} (h:IxP w g ρ ns nk x va gs gk ms mk) {s:ByteArray} (hs:s.size<=maxLen) (hns:ns<maxLen) {n:Int}{v':Value}{wA wB:World} (hxA:Ext w wA)
  (ho:OwnS rI 3 wB 0 (fun _=>False) v' (x.str s++[n])) (hgB:wA.grownBy wB ((ms s).getD jo).ownBlock) (hv' : ∀ k,v'.ownBlock=some k->((ms s).getD jo).ownBlock=some k\/wA.heap.size<=k) :
  MapG kStr wB gs ns ms/\(∀ p u,(ρ p.block=none\/p.block=g)->w.cell? p=some u->wB.cell? p=some u)/\
  ∃ w',(Instr.mapUpdate 108 (.map (some gs)) (.string s) v').run Tryz.prog wB = .ok () w'/\IxP w' g (rolS ρ v' s) (ns+1) nk { x with str:=fun t=>if t=s then x.str s++[n] else x.str t } va gs gk (upd ms s v') mk/\Keep (fun k=>ρ k=none) w w'/\(∀ k,rolS ρ v' s k≠none->ρ k≠none\/w.heap.size<=k)/\w'.heap.size=wB.heap.size/\(∀ p u,(ρ p.block=none\/p.block=g)->w.cell? p=some u->w'.cell? p=some u):=by
 have hkB:Keep (fun j=>¬ ((ms s).getD jo).ownBlock=some j) w wB:=(hxA.keep _).trans ((zl hgB).mono fun j hj _ e=>hj e.symm);have hr : ∀ j,((ms s).getD jo).ownBlock=some j->ρ j=some (.row s):=fun j hj=>h.rstr s hs j hj;have hM:MapG kStr wB gs ns ms:=h.str.kept hkB (fun e=>by have:=hr _ e;rw[h.rs]at this;simp at this);obtain⟨w',hrun,hm,hg,hsz⟩:=hM.store Tryz.underlying108 hns (x:=s) hs v';obtain⟨h1,h2,h3⟩:=h.setStr hs hxA ho hgB hv' hm hg;have hcB : ∀ p u,(ρ p.block=none\/p.block=g)->w.cell? p=some u->wB.cell? p=some u:=fun p u hp hc=>by
  refine hkB.cell hc (fun e=>?_);have:=hr _ e;rcases hp with hp|hp
  ·rw[hp]at this;simp at this
  ·rw[hp,h.rg]at this;simp at this
 refine⟨hM,hcB,w',hrun,h1,h2,h3,hsz,fun p u hp hc=>?_⟩;have hne:p.block≠gs:=fun e=>by
  rcases hp with hp|hp
  ·rw[e,h.rs]at hp;simp at hp
  ·exact h.ne1 (hp.symm.trans e)
 exact Keep.cell ((zl hg).mono (S':=fun j=>j≠gs) fun j hj _ e=>hj (Option.some.inj e)) (hcB p u hp hc) hne
theorem IxP.allAt {w W:World}{g:Nat}{ρ:Nat->Option Rol}{ns nk:Nat}{x:Ix}{va:Value}{gs gk:Nat}{ms mk:ByteArray->Option Value} (h:IxP w g ρ ns nk x va gs gk ms mk) (hx:Ext w W) (B:Nat):OwnS rEnt 100 W 0 (fun k=>ρ k=some .elem\/(w.heap.size<=k/\k<B)) va x.all:=
 (h.all.ext hx).widen (fun k hk _=>.inl hk) (fun k hk hS=>by
  have h1:=h.rall k hk;rcases hS with hS|hS
  ·rw[h1]at hS;simp at hS
  ·have:=h.lt k (by rw[h1];simp);omega)
theorem IxP.storeAll {w wA wA' wB:World}{g:Nat}{ρ:Nat->Option Rol}{ns nk:Nat}{x:Ix}{va:Value}{gs gk:Nat}{ms mk:ByteArray->Option Value} (h:IxP w g ρ ns nk x va gs gk ms mk) {e:Ent}{v':Value} (hxA:Ext w wA) (hxA':Ext wA wA')
  (ho:OwnS rEnt 100 wB 0 (fun k=>ρ k=some .elem\/(w.heap.size<=k/\k<wA.heap.size)) v' (x.all++[e])) (hgB:wA'.grownBy wB va.ownBlock) (hv' : ∀ k,v'.ownBlock=some k->va.ownBlock=some k\/wA'.heap.size<=k) :
  (∀ p u,(ρ p.block=none\/p.block=g)->w.cell? p=some u->wB.cell? p=some u)/\wB.frozen? ⟨g,0,none⟩=false/\
  IxP (wB.setCell ⟨g,0,none⟩ v') g (rolA ρ v' w.heap.size wA.heap.size) ns nk { x with all:=x.all++[e] } v' gs gk ms mk/\Keep (fun k=>ρ k=none) w (wB.setCell ⟨g,0,none⟩ v')/\(∀ k,rolA ρ v' w.heap.size wA.heap.size k≠none->ρ k≠none\/w.heap.size<=k):=by
 obtain⟨h1,h2,h3⟩:=h.setAll hxA hxA' ho hgB hv';have hkB:Keep (fun j=>¬ va.ownBlock=some j) w wB:=((hxA.trans hxA').keep _).trans ((zl hgB).mono fun j hj _ e=>hj e.symm);refine⟨fun p u hp hc=>hkB.cell hc (fun e=>?_),?_,h1,h2,h3⟩
 ·have:=h.rall _ e;rcases hp with hp|hp
  ·rw[hp]at this;simp at this
  ·rw[hp,h.rg]at this;simp at this
 ·refine zc (c:=#[va,.map (some gs),.map (some gk)]) (t:=111) ?_ 0;rw[hkB.block g (fun e=>by have:=h.rall _ e;rw[h.rg]at this;simp at this) h.glt];exact h.head
theorem OwnS.snoc {α:Type}{r:Rdr α}{t:TypeId}{w:World}{base:Nat}{S:Nat->Prop}{v:Value}{xs:List α}{y:α} (h:OwnS r t w base S v (xs++[y])) : ∃ a c,v = .slice a (xs.length+1) c:=by
 obtain⟨a,c,e⟩:=h.slice;rw[List.length_append,List.length_singleton]at e;exact⟨a,c,e⟩
theorem zvw {w wA:World}{g:Nat}{ρ:Nat->Option Rol}{ns nk:Nat}{x:Ix}{va:Value}{gs gk:Nat}{ms mk:ByteArray->Option Value} (h:IxP w g ρ ns nk x va gs gk ms mk) (hs:w.heap.size<=wA.heap.size) (o:Obj) (k:Nat) (hk:ρ k=some .elem\/(w.heap.size<=k/\k<wA.heap.size)):k<(wA.alloc o).heap.size:=by
 rw[jw];rcases hk with hk|hk
 ·have:=h.lt k (by rw[hk];simp);omega
 ·omega
theorem zov (s:ByteArray) (x:Ix) (n:Int) (e:Ev) (l:List Ev):vj s x n (e :: l)=vj s (addE s x n e) (n+1) l:=rfl
theorem ztp (s:ByteArray) (x:Ix) (n:Int) (e:Ev):(addE s x n e).str s=x.str s++[(x.all.length:Int)]:=by simp[addE,zfh,zdv]
theorem zgj (s:ByteArray) (x:Ix) (n:Int) (e:Ev):(addE s x n e).all.length=x.all.length+1:=by simp[addE,zfh,zdv]
def AddRel (w:World) (g gB:Nat) (row:Obj) (ρ:Nat->Option Rol) (s:ByteArray) (f:Int) (es:List Ev) (m nk':Nat) (X:Ix) (i:Nat) (wr:World):Prop:=
 ∃ ρ':Nat->Option Rol,∃ xi:Ix,IxAt wr g ρ' xi.all.length nk' xi/\vj s xi (f+(i:Int)) (es.drop i)=X/\xi.all.length<=m+i/\m+i<=xi.all.length/\(xi.str s).length<=100000+i/\wr.heap[gB]? = some row/\
  Keep (fun j=>ρ j=none) w wr/\(∀ j,ρ' j≠none->ρ j≠none\/w.heap.size<=j)/\ρ' gB=none/\w.heap.size<wr.heap.size
theorem AddRel.step {w wo wb w7 w9:World}{g gB:Nat}{row:Obj}{ρ ρ' ρ7 ρ9:Nat->Option Rol}{s:ByteArray}{f:Int}{es:List Ev}{m nk':Nat}{X xi:Ix}{i:Nat}{e:Ev}{va:Value}{gs gk:Nat}{ms mk:ByteArray->Option Value}
  (hadd:vj s (addE s xi (f+(i:Int)) e) (f+(i:Int)+1) (es.drop (i+1))=X) (h1:xi.all.length<=m+i) (h2:m+i<=xi.all.length) (h3:(xi.str s).length<=100000+i) (hbx:wb.heap[gB]? = some row)
  (hkx:Keep (fun j=>ρ j=none) w wo) (hrr : ∀ j,ρ' j≠none->ρ j≠none\/w.heap.size<=j) (hrb:ρ' gB=none) (hsx:w.heap.size<wo.heap.size)
  (hxb:Ext wo wb) (hk7:Keep (fun j=>ρ' j=none) wb w7) (hr7 : ∀ j,ρ7 j≠none->ρ' j≠none\/wb.heap.size<=j)
  (hp9:IxP w9 g ρ9 (xi.all.length+1) nk' (addE s xi (f+(i:Int)) e) va gs gk ms mk) (hk9:Keep (fun j=>ρ7 j=none) w7 w9) (hr9 : ∀ j,ρ9 j≠none->ρ7 j≠none\/w7.heap.size<=j) :
  AddRel w g gB row ρ s f es m nk' X (i+1) w9:=by
 have hB:=(blt hbx)
 have z1:=hxb.size;have z2:=hk7.size;have z3:=hk9.size;have hn7 : ∀ j,j<wb.heap.size->ρ' j=none->ρ7 j=none:=fun j hj hr=>by
  by_cases h:ρ7 j=none
  ·exact h
  ·rcases hr7 j h with h'|h'
   ·exact absurd hr h'
   ·omega
 have hk79:Keep (fun j=>ρ' j=none/\j<wb.heap.size) wb w9:=Keep.trans (S:=fun j=>ρ' j=none/\j<wb.heap.size) (hk7.mono fun j hj _=>hj.1) (hk9.mono fun j hj _=>hn7 j hj.2 hj.1);have hnS : ∀ j,ρ j=none/\j<w.heap.size->ρ' j=none:=fun j hj=>by
  by_cases h:ρ' j=none
  ·exact h
  ·rcases hrr j h with h'|h'
   ·exact absurd hj.1 h'
   ·omega
 refine⟨ρ9,addE s xi (f+(i:Int)) e,?_,?_,by rw[zgj];omega,by rw[zgj];omega,by rw[ztp,List.length_append,List.length_singleton];omega,?_,?_,fun j hj=>?_,?_,by omega⟩
 ·rw[zgj];exact⟨_,gs,gk,_,mk,hp9⟩
 ·rw[show f+((i+1:Nat):Int)=f+(i:Int)+1 by omega];exact hadd
 ·rw[hk79.block gB ⟨hrb,hB⟩ hB];exact hbx
 ·have h5:Keep (fun j=>ρ j=none/\j<w.heap.size) w w9:=Keep.trans (hkx.mono fun j hj _=>hj.1) (Keep.trans (hxb.keep _) (hk79.mono fun j hj _=>⟨hnS j hj,by have:=hj.2;omega⟩));exact h5.mono fun j hj hl=>⟨hj,hl⟩
 ·rcases hr9 j hj with h'|h'
  ·rcases hr7 j h' with h'|h'
   ·exact hrr j h'
   ·right;omega
  ·right;omega
 ·by_cases h:ρ9 gB=none
  ·exact h
  ·rcases hr9 gB h with h'|h'
   ·exact absurd (hn7 gB hB hrb) h'
   ·omega
end
section
open Go.RowKit Go.Maps
structure SegP (W:World) (Sd:Nat->Prop) (gs gf:Nat) (fv zv:Value) (fs:List SFr) (zs:List Int):Prop where
 head:W.heap[gs]? = some (.cells #[.pointer (some ⟨gf,0,none⟩),fv,zv] 125 (0,0))
 frames:OwnS rSf 80 W 0 Sd fv fs
 sizes:OwnS rI 3 W 0 (fun _=>False) zv zs
 ne : ∀ k,fv.ownBlock=some k\/zv.ownBlock=some k\/Sd k->k≠gs
 two : ∀ k,zv.ownBlock=some k->fv.ownBlock≠some k/\¬ Sd k
def SegS (Sd:Nat->Prop) (gs:Nat) (fv zv:Value):Nat->Prop:=fun j=>j=gs\/fv.ownBlock=some j\/zv.ownBlock=some j\/Sd j
section
variable {w W W':World}{g:Nat}{ρ:Nat->Option DRol}{N:Nat}{d:Dv}{gl n:Nat}{C H:Int->Bk}{P:(Int->Bk)->Prop}{φ:Nat->Option FRol}{gf:Nat}{k:FsS}{Sd:Nat->Prop}{gs:Nat}{fv zv:Value}{fs:List SFr}{zs:List Int}
theorem SegP.keep (h:SegP W Sd gs gf fv zv fs zs) (hk:Keep (SegS Sd gs fv zv) W W'):SegP W' Sd gs gf fv zv fs zs where
 head:=(hk.block gs (.inl rfl) (blt h.head)).trans h.head
 frames:=h.frames.kept (hk.mono fun j hj _=>by
  rcases hj with hj|hj
  ·exact .inr (.inr (.inr hj))
  ·exact .inr (.inl hj))
 sizes:=h.sizes.kept (hk.mono fun j hj _=>by
  rcases hj with hj|hj
  ·exact hj.elim
  ·exact .inr (.inr (.inl hj)))
 ne:=h.ne
 two:=h.two
theorem SegP.ext (h:SegP W Sd gs gf fv zv fs zs) (hx:Ext W W'):SegP W' Sd gs gf fv zv fs zs:=h.keep (hx.keep _)
theorem zlb (h:FsAt w W g ρ N d gl n C P φ gf k) (hz:k.sz=none) :
  Calls Tryz.prog 29 #[.pointer (some ⟨gf,0,none⟩)] W fun e W'=>∃ gs,e = .returned (.tuple #[.pointer (some ⟨gs,0,none⟩),.int .i64 0])/\SegP W' (fun _=>False) gs gf (.slice none 0 0) (.slice none 0 0) [] []/\Ext W W'/\W.heap.size<=gs:=by
 have H:=hid h;clear h;go_enter Tryz.func29,Tryz.ntmps29;go_wp2_with fail;obtain⟨gs,hgs⟩ : ∃ gs,gs=W.heap.size:=⟨_,rfl⟩
 have hnew:=heap_alloc_new W (.cells #[.pointer (some ⟨gf,0,none⟩),.slice none 0 0,.slice none 0 0] 125);have hx1:Ext W (W.alloc (.cells #[.pointer (some ⟨gf,0,none⟩),.slice none 0 0,.slice none 0 0] 125)):=(Ext.refl _).alloc _;rw[<-hgs]at hnew ⊢;generalize (W.alloc (.cells #[.pointer (some ⟨gf,0,none⟩),.slice none 0 0,.slice none 0 0] 125))=w1 at hnew hx1 ⊢;have HNEW:=hid hnew;have HX1:=hid hx1;have HSZ:=hid (zd6 (H.out.ext hx1) seg0 (by decide) (.inr ⟨hz,rfl⟩));have hgs':W.heap.size<=gs:=by omega
 clear hnew hx1 hgs;obtain⟨nm,hnm⟩ : ∃ nm,nm=seg0:=⟨_,rfl⟩
 have hsn:=zdn w1;rw[<-hnm]at HSZ hsn;have HSN:=hid hsn;clear hnm hsn;go_loopw [5] (fun u5 wr=>u5 = .int .i64 0/\wr=w1) (fun _ _=>0);case atStart=>exact⟨rfl,rfl⟩
 case round=>
  obtain⟨rfl,rfl⟩:=hrel;go_wp2_with fail;refine HSN.out.mono ?_;rintro e w2 ⟨rfl,rfl⟩;go_wp2_with fail;refine HSZ.out.mono ?_;rintro e w2 ⟨rfl,rfl⟩;go_wp2_with fail;refine bodyPost_ret (v:=.tuple #[.pointer (some ⟨gs,0,none⟩),.int .i64 0]) (by simp[results,Tryz.results29,go_sem]) rfl ?_;exact⟨gs,rfl,⟨HNEW.out,OwnS.nil _ _ _ _ _,OwnS.nil _ _ _ _ _,fun j hj=>by simp[Value.ownBlock]at hj,fun j hj=>by simp[Value.ownBlock]at hj⟩,HX1.out,hgs'⟩
end
end
section
open Go.RowKit Go.Maps
theorem zt8 {w:World}{S:Nat->Prop}{v:Value}{xs:List SFr} (h:RdS rSf w S v xs) : ∃ gs:List (List Value × SFr),xs=gs.map (·.2)/\Src Tryz.prog rSf.size 81 v gs.length (cellsOf gs) w/\∀ p∈gs,rSf.rd w S p.1 p.2:=by
 obtain⟨v',gs,e,rfl,h1,h2,h3⟩:=h;obtain rfl:=List.singleton_inj.1 e;refine⟨gs,rfl,zb5 Tryz.underlying81 h1 (fun u hu=>?_),h3⟩;obtain⟨p,hp,hu⟩:=List.mem_flatMap.1 hu;exact rSf.one (h3 p hp) u hu
theorem zdm {w:World}{ops:Array Oper}{o:Oper}{a:Act}{K:Act->World->Prop}{Q:Exit->Act->World->Prop}{E:Prop} (hgd:o.guard=none) (s x:Operand)
  (ho:o.op = .call { callee:=.builtin .append,args:=#[s,x],argTypes:=#[81,81] }) (base:Nat) (S:Nat->Prop)
  (v:Value) (xs:List SFr) (hs:a.eval s=v) (happ:OwnS rSf 80 w base S v xs)
  (y:Value) (ys:List SFr) (hx:a.eval x=y) (hy:RdS rSf w S y ys) (hSlt : ∀ k,S k->k<w.heap.size) (hl:xs.length+ys.length<=1000000) (hbase:base<=w.heap.size)
  (h : ∀ v' w',OwnS rSf 80 w' base S v' (xs++ys)->w.grownBy w' v.ownBlock->(∀ k,v'.ownBlock=some k->v.ownBlock=some k\/w.heap.size<=k)->K (a.put o.dst v') w') :
  if Region.wanted o (yielded ops a.tmps)=true then Oper.wp Tryz.prog o a w K Q else E:=by
 have hw:Region.wanted o (yielded ops a.tmps)=true:=by simp[Region.wanted,hgd]
 rw[if_pos hw];obtain⟨zs,rfl,h1,h2⟩:=zt8 hy;rw[List.length_map]at hl;exact zhl rSf s x 81 81 80 _ 32 ho Tryz.underlying81 zkr rfl base S v xs hs happ y zs hx h1 h2 hSlt (by omega) (by omega) hbase fun v' w' k1 k2 k3=>h v' w' k1 k2 k3
theorem zfz : ∀ fs:List SFr,fs.length<=(stallF fs).length
 | []=>Nat.le_refl _
 | f :: fs=>by
  have h1:=zfz fs;have e:stallF (f :: fs)=putF f.1 f.2++stallF fs:=by simp[stallF]
  rw[e,List.length_append,List.length_cons,ko];omega
section
variable {w W W':World}{g:Nat}{ρ:Nat->Option DRol}{N:Nat}{d:Dv}{gl n:Nat}{H:Int->Bk}{φ:Nat->Option FRol}{gf:Nat}{gc ga gm:Nat}{gt:Option Nat}{gn:Nat}{qn:Option Nat}{lv:Value}
theorem zla (s nw lst:Nat) (dir:Option Nat) (hla:LogAt w W g ρ N d gl 64 n H) (hc:Calm d) (hN:N<=999900000) (h:FsP W φ gf gl H ⟨some s,nw,lst,0,dir⟩ gc ga gm gt gn qn lv) (hdis : ∀ j,φ j≠none->ρ j=none/\j≠gl/\w.heap.size<=j) (hs:s<=8192) (fs:List SFr) (hfs : ∀ f∈fs,f.2.length<=2000) (hb:(stallF fs).length=s) (hpre : ∀ i:Nat,i<nbN s->pre (stallF fs) s i <+: H (36+(i:Int))) :
  Calls Tryz.prog 29 #[.pointer (some ⟨gf,0,none⟩)] W fun e W'=>∃ gs fv zv Sd d' φ',e = .returned (.tuple #[.pointer (some ⟨gs,0,none⟩),.int .i64 0])/\SegP W' Sd gs gf fv zv fs [(s:Int)]/\
   LogAt w W' g ρ (N+16) d' gl 64 n H/\Calm d'/\FsP W' φ' gf gl H ⟨some s,nw,lst,nbN s,dir⟩ gc ga gm gt gn qn lv/\FStep W W' ρ ρ gl φ φ'/\(∀ j,SegS Sd gs fv zv j->W.heap.size<=j/\φ' j=none):=by
 have HLA:=hid hla;have HC:=hid hc;have H0:=hid h;have HDIS:=hid hdis;have HFS:=hid hfs;have HB:=hid hb;have HPRE:=hid hpre;clear hla hc h hdis hfs hb hpre;go_enter Tryz.func29,Tryz.ntmps29;go_wp2_with fail;obtain⟨gs,hgs⟩ : ∃ gs,gs=W.heap.size:=⟨_,rfl⟩
 have hnew:=heap_alloc_new W (.cells #[.pointer (some ⟨gf,0,none⟩),.slice none 0 0,.slice none 0 0] 125);have hx1:Ext W (W.alloc (.cells #[.pointer (some ⟨gf,0,none⟩),.slice none 0 0,.slice none 0 0] 125)):=(Ext.refl _).alloc _;rw[<-hgs]at hnew ⊢;generalize (W.alloc (.cells #[.pointer (some ⟨gf,0,none⟩),.slice none 0 0,.slice none 0 0] 125))=w1 at hnew hx1 ⊢;have HNEW:=hid hnew;have HX1:=hid hx1;have HGS:=hid hgs;have HAT:=hid (show FsAt w w1 g ρ N d gl n H (fun _=>True) φ gf ⟨some s,nw,lst,0,dir⟩ from⟨(HLA.out.keepT (hx1.keep _)).putG (by omega) fun _ _=>trivial,⟨_,_,_,_,_,_,_,H0.out.ext hx1⟩,HDIS.out⟩);obtain⟨nm,hnm⟩ : ∃ nm,nm=seg0:=⟨_,rfl⟩
 have HSN:=hid (fun W=>zdn W);have HSZ:=hid (zrj HAT.out rfl);have HRD:=hid (zx8 s nw lst dir (HLA.out.keepT (hx1.keep _)) HC.out hN (H0.out.ext hx1) HDIS.out hs (stallF fs) HB.out HPRE.out);rw[<-hnm]at HSZ HRD;have HNM:=hid hnm;clear hnew hx1 hgs hnm;go_loopw [5] (fun u5 wr=>(u5 = .int .i64 0/\wr=w1)\/(u5 = .int .i64 1/\∃ fv zv Sd d' φ',SegP wr Sd gs gf fv zv fs [(s:Int)]/\
   LogAt w wr g ρ (N+16) d' gl 64 n H/\Calm d'/\FsP wr φ' gf gl H ⟨some s,nw,lst,nbN s,dir⟩ gc ga gm gt gn qn lv/\FStep W wr ρ ρ gl φ φ'/\(∀ j,SegS Sd gs fv zv j->W.heap.size<=j/\φ' j=none))) (fun u5 _=>1-(intOf u5).toNat)
 case atStart=>exact .inl ⟨rfl,rfl⟩
 case round=>
  rcases hrel with⟨rfl,rfl⟩|⟨rfl,fv,zv,Sd,d',φ',hsp,hla,hc,hf,hst,hS⟩
  ·go_wp2_with fail;refine(HSN.out _).mono ?_;rintro e w2 ⟨rfl,rfl⟩;rw[<-HNM.out];go_wp2_with fail;refine HSZ.out.mono ?_;rintro e w2 ⟨rfl,rfl⟩;go_wp2_with fail;refine(HSN.out _).mono ?_;rintro e w2 ⟨rfl,rfl⟩;rw[<-HNM.out];go_wp2_with fail;refine HRD.out.mono ?_;rintro e w2 ⟨v2,rfl,ho2,d2,φ2,hla2,hc2,hf2,hd2,hv2,hst2⟩;have HO2:=hid ho2;have HLA2:=hid hla2;have HC2:=hid hc2;have HF2:=hid hf2;have HST2:=hid (FStep.xt HX1.out hst2);have hg2:=(hst2.keep.block gs (fun h=>by
    rcases h with h|h|h
    ·exact h (HLA.out.hm.late (Ext.refl _) (by have:=HGS.out;omega))
    ·have:=HLA.out.log.lt;have:=HGS.out;omega
    ·have:=H0.out.lt gs h;have:=HGS.out;omega) (blt HNEW.out)).trans HNEW.out
   have HG2:=hid hg2;have HN2:=hid hst2.new;have HZW:=hid hst2.keep.size;clear ho2 hla2 hc2 hf2 hd2 hv2 hst2 hg2;go_wp2_with fail;refine(zrc w2 v2 (stallF fs) (zk HO2.out) (by rw[HB.out];omega)).mono ?_;rintro e w3 ⟨v3,rfl,ho3,hb3⟩;rw[zpv fs HFS.out]at ho3 ⊢;dsimp only at ho3 ⊢;rw[HB.out];have hx3:=Ext.of hb3;obtain⟨a3,c3,rfl⟩:=ho3.slice;have HX3:=hid hx3;have HR3:=hid (RdS.mono ho3.rdS (S':=fun j=>w2.heap.size<=j/\j<w3.heap.size) fun j hj hl=>⟨hj,hl⟩);have HG3:=hid (yy hx3 HG2.out);clear ho3 hb3 hx3;go_wp2_with fail;have HLF:=hid (show fs.length<=8192 from by
    have h1:=zfz fs;rw[HB.out]at h1;omega)
   have c1:w3.cell? ⟨gs,1,none⟩=some (.slice none 0 0):=(cr 1 HG3.out)
   have c2:w3.cell? ⟨gs,2,none⟩=some (.slice none 0 0):=(cr 2 HG3.out)
   have hxd:Ext w3 w3.drew:=(Ext.refl _).drew;refine zr (fun w'=>w'.cell? ⟨gs,2,none⟩=some (.slice none 0 0)) [18,19,20] (by kernel_rfl) (Ext.cellS hxd c2) (fun hS=>?_);(refine za 0 rfl ?_;(try simp only[Act.put,tq0,tq1,tq2,tq3,tq4,tq5]));(refine za 1 rfl ?_;(try simp only[Act.put,tq0,tq1,tq2,tq3,tq4,tq5]));(refine za 2 rfl ?_;(try simp only[Act.put,tq0,tq1,tq2,tq3,tq4,tq5]));(refine za 3 rfl ?_;(try simp only[Act.put,tq0,tq1,tq2,tq3,tq4,tq5]));(refine za 4 rfl ?_;(try simp only[Act.put,tq0,tq1,tq2,tq3,tq4,tq5]));(refine za 6 rfl ?_;(try simp only[Act.put,tq0,tq1,tq2,tq3,tq4,tq5]));(refine za 8 rfl ?_;(try simp only[Act.put,tq0,tq1,tq2,tq3,tq4,tq5]));(refine za 9 rfl ?_;(try simp only[Act.put,tq0,tq1,tq2,tq3,tq4,tq5]));(refine za 10 rfl ?_;(try simp only[Act.put,tq0,tq1,tq2,tq3,tq4,tq5]));(refine za 11 rfl ?_;(try simp only[Act.put,tq0,tq1,tq2,tq3,tq4,tq5]));(refine za 12 rfl ?_;(try simp only[Act.put,tq0,tq1,tq2,tq3,tq4,tq5]));have e1:w3.drew.cell? ⟨gs,1,none⟩=some (.slice none 0 0):=Ext.cellS hxd c1;have hsw : -9223372036854775808<=(s:Int)/\(s:Int)<=9223372036854775807:=by omega
   have HSW:=hid hsw;generalize w3.drew=wd at hxd hS e1 ⊢;have HXD:=hid hxd;clear hxd hsw hS;refine ze (rs:=[5,13]) (by kernel_rfl) (by decide) (AllT.consS rfl (fun K hK=>?_) (AllT.consS rfl (fun K hK=>?_) AllT.nil));go_simp;(refine hK.out _ _ (Ext.cellS HXD.out c2) (fun hS=>?_);clear hK K);clear e1;refine ze (rs:=[7,13]) (by kernel_rfl) (by decide) (AllT.consS rfl (fun K hK=>?_) (AllT.consS rfl (fun K hK=>?_) AllT.nil));refine zdm rfl _ _ rfl w3.heap.size (fun j=>w2.heap.size<=j/\j<w3.heap.size) (.slice none 0 0) [] rfl (OwnS.nil _ _ _ _ _) (.slice a3 fs.length c3) fs rfl (HR3.out.ext HXD.out) (fun k hk=>Nat.lt_of_lt_of_le hk.2 HXD.out.size) (by simp only[List.length_nil,Nat.zero_add];have:=HLF.out;omega) HXD.out.size ?_;intro v4 w4 k1 k2 k3;rw[List.nil_append]at k1;have hxf:Ext w3 w4:=HXD.out.grown k2 (fun k hk=>by simp[Value.ownBlock]at hk);have HXF:=hid hxf;have HOF:=hid k1;have HBF:=hid (show ∀ k,v4.ownBlock=some k->wd.heap.size<=k/\k<w4.heap.size from fun k hk=>⟨by
    rcases k3 k hk with h|h
    ·simp[Value.ownBlock]at h
    ·exact h,(k1.lt k hk).2⟩)
   obtain⟨af,cf,rfl⟩:=k1.slice;clear k1 k2 k3 hxf;(refine hK.out _ _ (Ext.cellS HXF.out c2) (fun hS=>?_);clear hK K);refine ze (rs:=[13]) (by kernel_rfl) (by decide) (AllT.consS rfl (fun K hK=>?_) AllT.nil);go_simp;obtain⟨gb,hgb⟩ : ∃ gb,gb=w4.heap.size:=⟨_,rfl⟩
   have hnb:=heap_alloc_new w4 (.cells #[.int .i64 (s:Int)] 3);have hxb:Ext w4 (w4.alloc (.cells #[.int .i64 (s:Int)] 3)):=(Ext.refl _).alloc _;rw[<-hgb]at hnb ⊢;generalize (w4.alloc (.cells #[.int .i64 (s:Int)] 3))=w5 at hnb hxb ⊢;have HNB:=hid hnb;have HXB:=hid (HXF.out.trans hxb);have HXL:=hid hxb;clear hnb hxb hgb;(refine hK.out _ _ (Ext.cellS HXB.out c2) (fun hS=>?_);clear hK K);have HROW:=hid (HNB.out);have HOZ:=hid (HOF.out.ext HXL.out);have HXZ:=hid (HXB.out);have HBZ:=hid (show ∀ k,(Value.slice af fs.length cf).ownBlock=some k->w3.heap.size<=k/\k<w5.heap.size from fun k hk=>⟨(HOZ.out.lt k hk).1,(HOZ.out.lt k hk).2⟩);obtain⟨wz,hwz⟩ : ∃ wz,wz=w5:=⟨_,rfl⟩
   rw[<-hwz]at HROW HOZ HXZ HBZ ⊢;clear hwz;rotate_left
   go_simp;obtain⟨gb,hgb⟩ : ∃ gb,gb=wd.heap.size:=⟨_,rfl⟩
   have hnb:=heap_alloc_new wd (.cells #[.int .i64 (s:Int)] 3);have hxb:Ext wd (wd.alloc (.cells #[.int .i64 (s:Int)] 3)):=(Ext.refl _).alloc _;rw[<-hgb]at hnb ⊢;generalize (wd.alloc (.cells #[.int .i64 (s:Int)] 3))=w4 at hnb hxb ⊢;have HNB:=hid hnb;have HXB:=hid (HXD.out.trans hxb);have HXL:=hid hxb;clear hnb hxb hgb;(refine hK.out _ _ (Ext.cellS HXB.out c2) (fun hS=>?_);clear hK K);refine ze (rs:=[7]) (by kernel_rfl) (by decide) (AllT.consS rfl (fun K hK=>?_) AllT.nil);refine zdm rfl _ _ rfl w3.heap.size (fun j=>w2.heap.size<=j/\j<w3.heap.size) (.slice none 0 0) [] rfl (OwnS.nil _ _ _ _ _) (.slice a3 fs.length c3) fs rfl (HR3.out.ext HXB.out) (fun k hk=>Nat.lt_of_lt_of_le hk.2 HXB.out.size) (by simp only[List.length_nil,Nat.zero_add];have:=HLF.out;omega) HXB.out.size ?_;intro v4 w5 k1 k2 k3;rw[List.nil_append]at k1;have hxf:Ext w3 w5:=HXB.out.grown k2 (fun k hk=>by simp[Value.ownBlock]at hk);have HXF:=hid hxf;have HXK:=hid ((Ext.refl w4).grown k2 (fun k hk=>by simp[Value.ownBlock]at hk));have HOF:=hid k1;have HBF:=hid (show ∀ k,v4.ownBlock=some k->w4.heap.size<=k/\k<w5.heap.size from fun k hk=>⟨by
    rcases k3 k hk with h|h
    ·simp[Value.ownBlock]at h
    ·exact h,(k1.lt k hk).2⟩)
   obtain⟨af,cf,rfl⟩:=k1.slice;clear k1 k2 k3 hxf;(refine hK.out _ _ (Ext.cellS HXF.out c2) (fun hS=>?_);clear hK K);have HROW:=hid (yy (show Ext w4 w5 from HXK.out) HNB.out);have HOZ:=hid (HOF.out);have HXZ:=hid (HXF.out);have HBZ:=hid (show ∀ k,(Value.slice af fs.length cf).ownBlock=some k->w3.heap.size<=k/\k<w5.heap.size from fun k hk=>⟨(HOZ.out.lt k hk).1,(HOZ.out.lt k hk).2⟩);obtain⟨wz,hwz⟩ : ∃ wz,wz=w5:=⟨_,rfl⟩
   rw[<-hwz]at HROW HOZ HXZ HBZ ⊢;clear hwz;rotate_left
   go_simp;obtain⟨gb,hgb⟩ : ∃ gb,gb=wd.heap.size:=⟨_,rfl⟩
   have hnb:=heap_alloc_new wd (.cells #[.int .i64 (s:Int)] 3);have hxb:Ext wd (wd.alloc (.cells #[.int .i64 (s:Int)] 3)):=(Ext.refl _).alloc _;rw[<-hgb]at hnb ⊢;generalize (wd.alloc (.cells #[.int .i64 (s:Int)] 3))=w4 at hnb hxb ⊢;have HNB:=hid hnb;have HXB:=hid (HXD.out.trans hxb);have HXL:=hid hxb;clear hnb hxb hgb;(refine hK.out _ _ (Ext.cellS HXB.out c2) (fun hS=>?_);clear hK K);have e2:w4.cell? ⟨gs,1,none⟩=some (.slice none 0 0):=Ext.cellS HXB.out c1;clear e1;refine ze (rs:=[5]) (by kernel_rfl) (by decide) (AllT.consS rfl (fun K hK=>?_) AllT.nil);go_simp;(refine hK.out _ _ (Ext.cellS HXB.out c2) (fun hS=>?_);clear hK K);clear e2;refine ze (rs:=[7]) (by kernel_rfl) (by decide) (AllT.consS rfl (fun K hK=>?_) AllT.nil);refine zdm rfl _ _ rfl w3.heap.size (fun j=>w2.heap.size<=j/\j<w3.heap.size) (.slice none 0 0) [] rfl (OwnS.nil _ _ _ _ _) (.slice a3 fs.length c3) fs rfl (HR3.out.ext HXB.out) (fun k hk=>Nat.lt_of_lt_of_le hk.2 HXB.out.size) (by simp only[List.length_nil,Nat.zero_add];have:=HLF.out;omega) HXB.out.size ?_;intro v4 w5 k1 k2 k3;rw[List.nil_append]at k1;have hxf:Ext w3 w5:=HXB.out.grown k2 (fun k hk=>by simp[Value.ownBlock]at hk);have HXF:=hid hxf;have HXK:=hid ((Ext.refl w4).grown k2 (fun k hk=>by simp[Value.ownBlock]at hk));have HOF:=hid k1;have HBF:=hid (show ∀ k,v4.ownBlock=some k->w4.heap.size<=k/\k<w5.heap.size from fun k hk=>⟨by
    rcases k3 k hk with h|h
    ·simp[Value.ownBlock]at h
    ·exact h,(k1.lt k hk).2⟩)
   obtain⟨af,cf,rfl⟩:=k1.slice;clear k1 k2 k3 hxf;(refine hK.out _ _ (Ext.cellS HXF.out c2) (fun hS=>?_);clear hK K);have HROW:=hid (yy (show Ext w4 w5 from HXK.out) HNB.out);have HOZ:=hid (HOF.out);have HXZ:=hid (HXF.out);have HBZ:=hid (show ∀ k,(Value.slice af fs.length cf).ownBlock=some k->w3.heap.size<=k/\k<w5.heap.size from fun k hk=>⟨(HOZ.out.lt k hk).1,(HOZ.out.lt k hk).2⟩);obtain⟨wz,hwz⟩ : ∃ wz,wz=w5:=⟨_,rfl⟩
   rw[<-hwz]at HROW HOZ HXZ HBZ ⊢;clear hwz;all_goals
    refine ze (rs:=[14]) (by kernel_rfl) (by decide) (AllT.consS rfl (fun K hK=>?_) AllT.nil);refine zh6 rfl _ _ rfl w3.heap.size (.slice none 0 0) [] rfl (OwnS.nil _ _ _ _ _) (s:Int) HSW.out _ rfl HROW.out (by simp) HXZ.out.size ?_;intro v6 w6 k1 k2 k3;rw[List.nil_append]at k1;have hx6:Ext wz w6:=(Ext.refl wz).grown k2 (fun k hk=>by simp[Value.ownBlock]at hk);obtain⟨a6,c6,rfl⟩:=k1.slice;have HZ6:=hid k1;have HB6:=hid (show ∀ k,(Value.slice a6 [(s:Int)].length c6).ownBlock=some k->wz.heap.size<=k/\k<w6.heap.size from fun k hk=>⟨by
     rcases k3 k hk with h|h
     ·simp[Value.ownBlock]at h
     ·exact h,(k1.lt k hk).2⟩)
    have HX6:=hid (HXZ.out.trans hx6);have HO6:=hid (HOZ.out.ext hx6);have HG6:=hid (yy HX6.out HG3.out);clear k1 k2 k3 hx6;have f1:=zg HG6.out 1;have f2:=zg HG6.out 2;have d1:w6.cell? ⟨gs,1,none⟩=some (.slice none 0 0):=Ext.cellS HX6.out c1;have d2:w6.cell? ⟨gs,2,none⟩=some (.slice none 0 0):=Ext.cellS HX6.out c2;(refine hK.out _ _ (d2) (fun hS=>?_);clear hK K);refine ze (rs:=[15]) (by kernel_rfl) (by decide) (AllT.consS rfl (fun K hK=>?_) AllT.nil);go_simp;(refine hK.out _ _ (d2) (fun hS=>?_);clear hK K);refine ze (rs:=[16]) (by kernel_rfl) (by decide) (AllT.consS rfl (fun K hK=>?_) AllT.nil);go_simp;(refine hK.out _ _ (d2) (fun hS=>?_);clear hK K);refine ze (rs:=[17]) (by kernel_rfl) (by decide) (AllT.consS rfl (fun K hK=>?_) AllT.nil);go_simp;(refine hK.out _ _ ((by go_simp)) (fun hS=>?_);clear hK K);refine ze (rs:=[18]) (by kernel_rfl) (by decide) (AllT.consF rfl rfl (fun K hK=>?_) AllT.nil);go_simp;(refine hK.out _ _ ?_;clear hK K);refine ze (rs:=[19]) (by kernel_rfl) (by decide) (AllT.consF rfl rfl (fun K hK=>?_) AllT.nil);go_simp;(refine hK.out _ _ ?_;clear hK K);refine ze (rs:=[20]) (by kernel_rfl) (by decide) (AllT.consF rfl rfl (fun K hK=>?_) AllT.nil);go_simp;(refine hK.out _ _ ?_;clear hK K);refine zn (by kernel_rfl) (NoPanic.normal ?_) _;have hh7:=zw (o:=2) (zw (o:=1) HG6.out (.slice af fs.length cf)) (.slice a6 1 c6);have hk7:Keep (fun j=>j≠gs) w6 ((w6.setCell ⟨gs,1,none⟩ (.slice af fs.length cf)).setCell ⟨gs,2,none⟩ (.slice a6 1 c6)):=((Keep.refl _ _).setCell (by simp) _).setCell (by simp) _;generalize ((w6.setCell ⟨gs,1,none⟩ (.slice af fs.length cf)).setCell ⟨gs,2,none⟩ (.slice a6 1 c6))=w7 at hh7 hk7 ⊢;have HH7:=hid hh7;have HK7:=hid hk7;clear hh7 hk7 f1 f2 d1 d2 c1 c2;go_wp2_with fail;have hgsn:gs<wr.heap.size:=(blt HNEW.out)
    have hz2:wr.heap.size<=w2.heap.size:=by
     have h1:=HLA2.out.hm.ex.size;have h2:=(blt HG2.out)
     have h3:=HZW.out;exact h3
    have hz3:=HX3.out.size;have hzz:=HXZ.out.size;have hz6:=HX6.out.size;have hgW:=HGS.out;have hlW:=HLA.out.log.lt;have hlow:=HLA.out.hm.ex.size;have hφgs:φ2 gs=none:=by
     by_cases e:φ2 gs=none
     ·exact e
     ·rcases HN2.out gs e with h|h
      ·have:=H0.out.lt gs h;omega
      ·omega
    have hρgs:ρ gs=none:=HLA.out.hm.late (Ext.refl _) (by omega);have hφl : ∀ j,w2.heap.size<=j->φ2 j=none:=fun j hj=>by
     by_cases e:φ2 j=none
     ·exact e
     ·have:=HF2.out.lt j e;omega
    have hx26:Ext w2 w6:=HX3.out.trans HX6.out;have hla7:=(HLA2.out.keepT (hx26.keep _)).keepT (HK7.out.mono fun j hj _ e=>by
     subst e;rcases hj with (hj|hj)|hj
     ·exact hj hρgs
     ·omega
     ·omega)
    have hf7:=(HF2.out.ext hx26).keep (HK7.out.mono fun j hj _ e=>hj (by rw[e];exact hφgs));have hst7:FStep W w7 ρ ρ gl φ φ2:=⟨HST2.out.rol,HST2.out.new,(HST2.out.keep.trans (hx26.keep _)).past HK7.out fun j hj _ e=>by omega⟩
    have hsp7:SegP w7 (fun j=>w2.heap.size<=j/\j<w3.heap.size) gs gf (.slice af fs.length cf) (.slice a6 1 c6) fs [(s:Int)]:=by
     refine⟨HH7.out,?_,?_,fun k hk=>?_,fun k hk=>⟨fun h=>?_,fun h=>?_⟩⟩
     ·refine(HO6.out.kept (HK7.out.mono fun j hj _=>?_)).low (Nat.zero_le _);show j≠gs;rcases hj with hj|hj
      ·omega
      ·have:=HBZ.out j hj;omega
     ·refine(HZ6.out.kept (HK7.out.mono fun j hj _=>?_)).low (Nat.zero_le _);show j≠gs;rcases hj with hj|hj
      ·exact hj.elim
      ·have:=HB6.out j hj;omega
     ·rcases hk with hk|hk|hk
      ·have:=HBZ.out k hk;omega
      ·have:=HB6.out k hk;omega
      ·omega
     ·have h1:=HB6.out k hk;have h2:=HBZ.out k h;omega
     ·have h1:=HB6.out k hk;omega
    refine⟨.inr ⟨rfl,_,_,_,d2,φ2,hsp7,hla7,HC2.out,hf7,hst7,fun j hj=>?_⟩,by simp only[intOf];omega⟩;rcases hj with hj|hj|hj|hj
    ·subst hj;exact⟨by omega,hφgs⟩
    ·have:=HBZ.out j hj;exact⟨by omega,hφl j (by omega)⟩
    ·have:=HB6.out j hj;exact⟨by omega,hφl j (by omega)⟩
    ·exact⟨by omega,hφl j hj.1⟩
  ·have HSP:=hid hsp;have HLI:=hid hla;have HCI:=hid hc;have HFI:=hid hf;have HSTI:=hid hst;have HSI:=hid hS;have hd1 : ∀ j,φ' j≠none->ρ j=none/\j≠gl/\w.heap.size<=j:=fun j hj=>by
    have hgl:=HLA.out.log.lt;rcases hst.new j hj with h|h
    ·exact HDIS.out j h
    ·exact⟨HLA.out.hm.late (Ext.refl _) h,by omega,by have:=HLA.out.hm.ex.size;omega⟩
   have HSZ1:=hid (zd6 (show FsAt w wr g ρ (N+16) d' gl n H (fun _=>True) φ' gf ⟨some s,nw,lst,nbN s,dir⟩ from⟨hla.putG (by omega) fun _ _=>trivial,⟨_,_,_,_,_,_,_,hf⟩,hd1⟩) seg1 (by decide) (.inl (by decide)));have HSN1:=hid (zr6 wr);obtain⟨nm1,hnm1⟩ : ∃ nm1,nm1=seg1:=⟨_,rfl⟩
   rw[<-hnm1]at HSZ1 HSN1;clear hsp hla hc hf hst hS hd1 hnm1;go_wp2_with fail;refine HSN1.out.mono ?_;rintro e w2 ⟨rfl,rfl⟩;go_wp2_with fail;refine HSZ1.out.mono ?_;rintro e w2 ⟨rfl,rfl⟩;go_wp2_with fail;refine bodyPost_ret (v:=.tuple #[.pointer (some ⟨gs,0,none⟩),.int .i64 0]) (by simp[results,Tryz.results29,go_sem]) rfl ?_;exact⟨gs,fv,zv,Sd,d',φ',rfl,HSP.out,HLI.out,HCI.out,HFI.out,HSTI.out,HSI.out⟩
end
end
end Go.Proofs.YtnadlnmclameiaaGreatDoor
