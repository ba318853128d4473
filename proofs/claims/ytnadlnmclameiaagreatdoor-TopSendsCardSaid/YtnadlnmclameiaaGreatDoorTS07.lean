/- part 7 -/
import Derived.Test.YtnadlnmclameiaaGreatDoorTS06
import Derived.Maps.RangeWalk
import Derived.Shelf.SlIterI.Nil
set_option maxRecDepth 100000
set_option maxHeartbeats 8000000
set_option linter.all false
namespace Go.Proofs.YtnadlnmclameiaaGreatDoor
section
open Go.RowKit Go.Maps
def setAll (xs:List Value):Nat->List Value->List Value
 | _,[]=>xs
 | o,v :: r=>setAll (xs.set o v) (o+1) r
theorem znw (vs:List Value) : ∀ (o:Nat) (xs:List Value) (j:Nat),(setAll xs o vs)[j]? = if o<=j/\j<o+vs.length/\j<xs.length then vs[j-o]? else xs[j]?:=by
 induction vs with
 | nil=>intro o xs j;simp[setAll];omega
 | cons v r ih=>
  intro o xs j;rw[setAll,ih,List.length_set,List.getElem?_set];by_cases e:j=o
  ·subst e;by_cases hj:j<xs.length
   ·simp[hj];intro h;omega
   ·simp[hj]
  ·by_cases h3:o+1<=j/\j<o+1+r.length/\j<xs.length
   ·rw[if_pos h3,if_pos (by simp only[List.length_cons];omega),show j-o=(j-(o+1))+1 by omega,List.getElem?_cons_succ]
   ·rw[if_neg h3,if_neg (by omega),if_neg (by simp only[List.length_cons];omega)]
theorem zkh {base e size n g cap:Nat} (vs:List Value) : ∀ (o:Nat) (w:World) (xs:List Value),w.ownsRow base e size (.slice (some ⟨g,0,none⟩) n cap) n xs->(w.setCells g o vs).ownsRow base e size (.slice (some ⟨g,0,none⟩) n cap) n (setAll xs o vs):=by
 induction vs with
 | nil=>intro o w xs h;exact h
 | cons v r ih=>intro o w xs h;rw[World.setCells,setAll];exact ih (o+1) _ _ (World.ownsRow.stored h o v).1
theorem zi0 {α:Type} (gs:List (List Value × α)) (n:Nat) (hn:0<n) (h : ∀ p∈gs,p.1.length=n) (i:Nat) (hi:i<gs.length) (p:List Value × α) (hp:p.1.length=n):cellsOf (gs.set i p)=setAll (cellsOf gs) (i*n) p.1:=by
 have h' : ∀ q∈gs.set i p,q.1.length=n:=fun q hq=>by
  rcases List.mem_or_eq_of_mem_set hq with hq|rfl
  ·exact h q hq
  ·exact hp
 apply List.ext_getElem?;intro j;rw[znw,za4 gs n h,hp];have hd:j=(j / n)*n+j % n:=by rw[Nat.mul_comm];exact(Nat.div_add_mod j n).symm
 have hm:j % n<n:=Nat.mod_lt _ hn;by_cases ha:j / n<gs.length
 ·have hlt:j<gs.length*n:=by
   have:(j / n+1)*n<=gs.length*n:=Nat.mul_le_mul_right _ ha;rw[Nat.add_mul]at this;omega
  have h1:=jv (gs.set i p) n h' (j / n) (by simpa using ha) (j % n) hm;have h2:=jv gs n h (j / n) ha (j % n) hm;rw[<-hd]at h1 h2;rw[h1,h2,List.getElem_set];by_cases e:i=j / n
  ·subst e;rw[if_pos rfl,if_pos (by omega),show j-j / n*n=j % n by omega]
  ·rw[if_neg e,if_neg];intro ⟨c1,c2,_⟩;have c3:i<=j / n:=(Nat.le_div_iff_mul_le hn).2 c1;have c4:j / n<i+1:=(Nat.div_lt_iff_lt_mul hn).2 (by rw[Nat.add_mul];omega);omega
 ·have hge:gs.length*n<=j:=by
   have:=Nat.mul_le_mul_right n (Nat.not_lt.1 ha);omega
  rw[List.getElem?_eq_none (by rw[za4 _ n h',List.length_set];exact hge),if_neg (by omega),List.getElem?_eq_none (by rw[za4 _ n h];exact hge)]
theorem zi9 {w:World}{g o:Nat}{vs:List Value}:Keep (fun k=>k≠g) w (w.setCells g o vs)/\(w.setCells g o vs).heap.size=w.heap.size:=by
 have hs : ∀ (vs:List Value) (o:Nat) (w:World),(w.setCells g o vs).heap.size=w.heap.size/\(w.setCells g o vs).tape=w.tape:=by
  intro vs;induction vs with
  | nil=>intro o w;exact⟨rfl,rfl⟩
  | cons v r ih=>intro o w;rw[World.setCells];obtain⟨h1,h2⟩:=ih (o+1) (w.setCell ⟨g,o,none⟩ v);exact⟨h1.trans (by simp),h2.trans rfl⟩
 obtain⟨h1,h2⟩:=hs vs o w;exact⟨⟨World.os_setCells w g o vs,h2,World.output_setCells w g o vs,by omega,fun k hk hl=>World.heap_setCells_other w g o vs hl hk⟩,h1⟩
theorem OwnS.setBk {w:World}{base g n cap:Nat}{t:TypeId}{S:Nat->Prop}{xs:List Bk} (h:OwnS rBk t w base S (.slice (some ⟨g,0,none⟩) n cap) xs) (i:Nat) (hi:i<xs.length) {b:Bk} (hb:b.length=512) :
  OwnS rBk t (w.setCells g (i*512) (bvs b)) base S (.slice (some ⟨g,0,none⟩) n cap) (xs.set i b)/\w.there g (i*512) (bvs b).toArray.size:=by
 obtain⟨gs,rfl,h1,h2,h3⟩:=h;rw[List.length_map]at hi;have hlen : ∀ p∈gs,p.1.length=512:=fun p hp=>rBk.len (h3 p hp);have hnn:n=gs.length:=by
  rcases h1.2 with⟨e,_⟩|⟨_,_,_,e,_⟩
  ·simp at e
  ·simp only[Value.slice.injEq]at e;exact e.2.1
 subst hnn;refine⟨⟨gs.set i (bvs b,b),by rw[List.map_set],?_,h2,fun p hp=>?_⟩,fun j hj=>⟨?_,World.ownsRow.frozenAt h1 _⟩⟩
 ·rw[List.length_set,zi0 gs 512 (by omega) hlen i hi _ (by simp[bvs,hb])];exact zkh _ _ _ _ h1
 ·rcases List.mem_or_eq_of_mem_set hp with hp|rfl
  ·exact h3 p hp
  ·exact⟨rfl,hb⟩
 ·have hj:j<512:=by simpa[bvs,hb] using hj
  rcases h1.2 with⟨e,_⟩|⟨g',cap',cur,e,-,hg,hnc,hcm,hcs,htake⟩
  ·simp at e
  ·simp only[Value.slice.injEq,Option.some.injEq,Addr.mk.injEq,and_true,true_and]at e;obtain⟨rfl,rfl⟩:=e;rw[cell_of_row _ _ _ _ _ _ hg];have h5:(i+1)*512<=gs.length*512:=Nat.mul_le_mul_right _ hi;have h6:gs.length*512<=cap*512:=Nat.mul_le_mul_right _ hnc;have h7:cur.size=cap*512:=hcs;rw[Array.getElem?_eq_getElem (by omega)];rfl
theorem zel {w:World}{ops:Array Oper}{o:Oper}{a:Act}{K:Act->World->Prop}{Q:Exit->Act->World->Prop}{E:Prop} (hgd:o.guard=none) (x y:Operand)
  (ho:o.op = .store 85 x y) (g i:Nat) (b:Bk) (hx:a.eval x = .pointer (some ⟨g,i*512,none⟩)) (hy:a.eval y = .agg (bvs b).toArray) (hb:b.length=512) (ht:w.there g (i*512) (bvs b).toArray.size)
  (h:K (a.put o.dst undef) (w.setCells g (i*512) (bvs b))):if Region.wanted o (yielded ops a.tmps)=true then Oper.wp Tryz.prog o a w K Q else E:=by
 have hw:Region.wanted o (yielded ops a.tmps)=true:=by simp[Region.wanted,hgd]
 rw[if_pos hw];exact wp_store_mid 85 x y ho g (i*512) (bvs b).toArray hx hy ht (by rw[jt];simp[bvs,hb]) (all_oneCell_toArray (qh b)) h
section
variable {κ:Type}{q:KeyK κ}{w w':World}{b r n cnt:Nat}{m:κ->Option Value}{left:Lit->Bool}
def MapR (q:KeyK κ) (w:World) (b r n:Nat) (m:κ->Option Value) (left:Lit->Bool) (cnt:Nat):Prop:=
 ∃ D:DataW Value,w.ranges Tryz.prog q.t rawE b r n D left cnt/\∀ x,q.ok x->(m x=none/\Maps.has D (q.lit x)=false)\/∃ v,m x=some v/\Maps.has D (q.lit x)=true/\∀ z,D.atKey (q.lit x) z = .held v
theorem MapR.map (h:MapR q w b r n m left cnt):MapG q w b n m:=by obtain⟨D,h1,h2⟩:=h;exact⟨D,h1.owns,h2⟩
theorem MapR.keep (h:MapR q w b r n m left cnt) (hb:w'.heap[b]? = w.heap[b]?) (hr:w'.heap[r]? = w.heap[r]?):MapR q w' b r n m left cnt:=by
 obtain⟨D,⟨es,clock,since,seen,c0,hb0,F,hs,hD,hr0,rest⟩,h2⟩:=h;exact⟨D,⟨es,clock,since,seen,c0,hb.trans hb0,F,hs,hD,hr.trans hr0,rest⟩,h2⟩
theorem MapR.lt (h:MapR q w b r n m left cnt):r<w.heap.size/\b<w.heap.size/\r≠b:=by obtain⟨D,h1,h2⟩:=h;exact⟨h1.lt,h1.owns.lt,h1.ne⟩
theorem MapR.left_eq (h:MapR q w b r n m left cnt):w.rangeLeft b r=cnt:=by obtain⟨D,h1,h2⟩:=h;exact h1.left_eq
def zhr (q:KeyK κ) (m:κ->Option Value) (left:Lit->Bool):Prop:=∀ x,q.ok x->left (q.lit x)=(m x).isSome
theorem MapG.range (h:MapG q w b n m) {t e:TypeId} (ht:Tryz.prog.underlying t=some (.map q.t e)) :
  ∃ w' left cnt,(Instr.range t (.map (some b))).run Tryz.prog w = .ok (.pointer (some ⟨w.heap.size,0,none⟩)) w'/\MapR q w' b w.heap.size n m left cnt/\zhr q m left/\Ext w w'/\w'.heap.size=w.heap.size+1:=by
 obtain⟨D,h1,h2⟩:=h;obtain⟨w',hrun,hr,hg,hs⟩:=h1.range q.law ht;refine⟨w',_,_,hrun,⟨D,hr,h2⟩,fun x hx=>?_,(zl hg).mono (fun _ _ _=>by simp) |>.ext,hs⟩;rcases h2 x hx with⟨e1,e2⟩|⟨v,e1,e2,_⟩
 ·rw[e1,e2];rfl
 ·rw[e1,e2];rfl
end
theorem MapR.next {w:World}{b r n cnt:Nat}{m:Int->Option Value}{left:Lit->Bool} (h:MapR kInt w b r n m left cnt) (ty:TypeId) :
  (cnt=0/\(∀ x:Int,left (.int .i64 x)=false)/\(Instr.next (.pointer (some ⟨r,0,none⟩)) false ty).run Tryz.prog w = .ok (.tuple #[.bool false]) w)\/
  ∃ x v w' cnt',kInt.ok x/\m x=some v/\left (.int .i64 x)=true/\(Instr.next (.pointer (some ⟨r,0,none⟩)) false ty).run Tryz.prog w = .ok (.tuple #[.bool true,.int .i64 x,v]) w'/\
   MapR kInt w' b r n m (fun z=>left z && !z.sameKey (.int .i64 x)) cnt'/\cnt'<cnt/\Keep (fun k=>k≠r) w w'/\w'.heap.size=w.heap.size/\(Instr.entry (.pointer (some ⟨r,0,none⟩))).run Tryz.prog w' = .ok (.tuple #[.int .i64 x,v]) w':=by
 obtain⟨D,h1,h2⟩:=h;rcases h1.next kInt.law ty with⟨e1,e2,e3⟩|⟨key,v,kl,y,w',cnt',hkey,hl,hy,hat,hrun,hr,hlt,hg,hs,hen⟩
 ·exact .inl ⟨e1,fun x=>e2 _,e3⟩
 ·obtain⟨x,rfl,rfl,hw⟩:=Maps.keyOf_int_inv Tryz.underlying3 hkey;have hx:kInt.ok x:=by
   have hw:(decide (IntKind.i64.min<=x) && decide (x<=IntKind.i64.max))=true:=hw;rw[Bool.and_eq_true,decide_eq_true_eq,decide_eq_true_eq]at hw;exact hw
  have hy:=zca hy;subst hy;have hv:m x=some v:=by
   rcases h2 x hx with⟨e1,e2⟩|⟨u,e1,e2,e3⟩
   ·have k1:=hat (.held undef);have k2:=atKey_of_not_has e2 (.held undef:DataW Value);have k3:=hat (.held (.bool true));have k4:=atKey_of_not_has e2 (.held (.bool true):DataW Value);have k1:D.atKey (kInt.lit x) (.held undef) = .held v:=k1;have k3:D.atKey (kInt.lit x) (.held (.bool true)) = .held v:=k3;rw[k2]at k1;rw[k4]at k3;have:=(DataW.held.inj k1).trans (DataW.held.inj k3).symm;simp[undef]at this
   ·have k1:D.atKey (kInt.lit x) (.held undef) = .held v:=hat _;rw[e3]at k1;rw[e1,DataW.held.inj k1]
  exact .inr ⟨x,v,w',cnt',hx,hv,hl,hrun,⟨D,hr,h2⟩,hlt,(zl hg).mono (fun k hk _ e=>hk (Option.some.inj e)),hs,hen⟩
theorem zeh (left:Lit->Bool) {x y:Int} (h:y≠x):(fun z:Lit=>left z && !z.sameKey (.int .i64 x)) (.int .i64 y)=left (.int .i64 y):=by simp[Lit.sameKey,h]
theorem MapG.clear {κ:Type}{q:KeyK κ}{w:World}{b n:Nat}{m:κ->Option Value} (h:MapG q w b n m) {t e:TypeId} (ht:Tryz.prog.underlying t=some (.map q.t e)) (ty:TypeId) :
  ∃ w',(Builtin.clear_ #[t] ty #[.map (some b)]).run Tryz.prog w = .ok (.tuple #[]) w'/\MapG q w' b 0 (fun _=>none)/\Keep (fun k=>k≠b) w w'/\w'.heap.size=w.heap.size:=by
 obtain⟨D,⟨es,clock,hb,F,hs,hD⟩,h2⟩:=h;refine⟨ChangeMaps.setBlock w b (.map #[] clock),?_,?_,?_,by simp[ChangeMaps.setBlock]⟩
 ·simp[Builtin.clear_,run_underlying ht,MapKept.run_getObj_map hb,MapKept.run_setObj_map _ hb,Result.andThen,ChangeMaps.setBlock]
 ·refine⟨.map [],⟨#[],clock,?_,⟨by simp,MapKept.stamped_empty clock,by simp⟩,Nat.zero_le _,rfl⟩,fun x _=>.inl ⟨rfl,rfl⟩⟩;have:=(blt hb)
  simp[ChangeMaps.setBlock,this]
 ·refine⟨rfl,rfl,rfl,by simp[ChangeMaps.setBlock],fun k hk hl=>?_⟩;simp only[ChangeMaps.setBlock];rw[Array.getElem?_setIfInBounds_ne (fun e=>hk e.symm)]
open Go.RowKit Go.Maps
theorem zml {w:World}{ops:Array Oper}{rest:List Oper}{o:Oper}{a:Act}{Q:Exit->Act->World->Prop} (hgd:o.guard=none) (it:Operand) (hop:o.op=Op.next it false) (r:Nat) (hit:a.eval it = .pointer (some ⟨r,0,none⟩))
  {b n cnt:Nat}{m:Int->Option Value}{left:Lit->Bool} (h:MapR kInt w b r n m left cnt)
  (hDone:cnt=0->(∀ x:Int,left (.int .i64 x)=false)->wpList Tryz.prog ops Q rest (a.put o.dst (.tuple #[.bool false])) w)
  (hMore : ∀ (x:Int) (v:Value) (w':World) (cnt':Nat),kInt.ok x->m x=some v->left (.int .i64 x)=true->MapR kInt w' b r n m (fun z=>left z && !z.sameKey (.int .i64 x)) cnt'->cnt'<cnt->Keep (fun k=>k≠r) w w'->w'.heap.size=w.heap.size->
   (Instr.entry (.pointer (some ⟨r,0,none⟩))).run Tryz.prog w' = .ok (.tuple #[.int .i64 x,v]) w'->wpList Tryz.prog ops Q rest (a.put o.dst (.tuple #[.bool true,.int .i64 x,v])) w'):wpList Tryz.prog ops Q (o :: rest) a w:=by
 refine wpList_plain hgd fun K' hK'=>?_;unfold Oper.wp;rcases h.next o.type with⟨h0,hl,hrun⟩|⟨x,v,w',cnt',hx,hv,hl,hrun,hr,hlt,hk,hs,hen⟩
 ·simp[execOp,hop,hit,hrun,Result.andThen];exact hK' _ _ (hDone h0 hl)
 ·simp[execOp,hop,hit,hrun,Result.andThen];exact hK' _ _ (hMore x v w' cnt' hx hv hl hr hlt hk hs hen)
def j7 (d:Dv) (left:Lit->Bool):List Bk:=(List.range d.safe.length).map fun (j:Nat)=>if left (.int .i64 (j:Int))=true then d.safe.getD j zb else curF d j
theorem bp (d:Dv) (left:Lit->Bool):(j7 d left).length=d.safe.length:=by simp[j7]
theorem zlw {w:World}{g:Nat}{ρ:Nat->Option DRol}{N:Nat}{d:Dv}{vs:Value}{gm:Nat}{m:Int->Option Value} (h:DvP w g ρ N d vs gm m) {left:Lit->Bool} (hl:zhr kInt m left):j7 d left=d.safe:=by
 apply List.ext_getElem (bp d left);intro j h1 h2;have hj:kInt.ok (j:Int):=⟨by omega,by have:=h.size.2;omega⟩
 have hl:=hl (j:Int) hj;have e:(kInt.lit (j:Int)) = .int .i64 (j:Int):=rfl;rw[e]at hl;simp only[j7,List.getElem_map,List.getElem_range];rw[hl];have hd:d.safe.getD j zb=d.safe[j]:=by rw[List.getD_eq_getElem?_getD,List.getElem?_eq_getElem h2];rfl
 cases hm:m (j:Int) with
 | some v=>rw[Option.isSome_some,if_pos rfl,hd]
 | none=>
  rw[if_neg (by simp)];have hp:d.pend (j:Int)=[]:=by
   by_cases hp:d.pend (j:Int)=[]
   ·exact hp
   ·have:=(h.has (j:Int) hj).2 hp;rw[hm]at this;cases this
  unfold curF;rw[hp,List.getLast?_nil,Option.getD_none,Int.toNat_natCast,hd]
theorem znx {d:Dv}{left:Lit->Bool}{x:Nat} (hx:x<d.safe.length):(j7 d left).set x (curF d x)=j7 d (fun z=>left z && !z.sameKey (.int .i64 (x:Int))):=by
 apply List.ext_getElem (by rw[List.length_set,bp,bp]);intro j h1 h2;rw[List.getElem_set];simp only[j7,List.getElem_map,List.getElem_range];by_cases e:x=j
 ·subst e;rw[if_pos rfl,if_neg (by simp[Lit.sameKey])]
 ·rw[if_neg e];have:=zeh left (x:=(x:Int)) (y:=(j:Int)) (by omega);simp only at this;rw[this]
theorem zpw {d:Dv}{left:Lit->Bool} (hl : ∀ x:Int,left (.int .i64 x)=false):j7 d left=(List.range d.safe.length).map fun (j:Nat)=>curF d (j:Int):=by
 unfold j7;apply List.map_congr_left;intro j _;rw[hl,if_neg (by simp)]
theorem DvP.setSafe {w:World}{g:Nat}{ρ:Nat->Option DRol}{N:Nat}{d:Dv}{gs n cap:Nat}{gm:Nat}{m:Int->Option Value} (h:DvP w g ρ N d (.slice (some ⟨gs,0,none⟩) n cap) gm m) (i:Nat) (hi:i<d.safe.length) {b:Bk} (hb:b.length=512) :
  DvP (w.setCells gs (i*512) (bvs b)) g ρ N { d with safe:=d.safe.set i b } (.slice (some ⟨gs,0,none⟩) n cap) gm m/\w.there gs (i*512) (bvs b).toArray.size/\Keep (fun k=>k≠gs) w (w.setCells gs (i*512) (bvs b)):=by
 obtain⟨h1,h2⟩:=h.safe.setBk i hi hb;obtain⟨k1,k2⟩:=zi9 (w:=w) (g:=gs) (o:=i*512) (vs:=bvs b);have hgs:=h.rsafe gs rfl;refine⟨{
  head:=by rw[k1.block g (fun e=>by have:=h.rg;rw[e,hgs]at this;simp at this) h.glt];exact h.head
  rg:=h.rg
  safe:=h1
  rsafe:=h.rsafe
  map:=h.map.kept k1 (fun e=>by have:=h.rm;rw[e,hgs]at this;simp at this)
  rm:=h.rm
  pend:=fun t ht=>(h.pend t ht).kept (k1.mono fun k hs _=>by
   rcases hs with hs|hs
   ·exact hs.elim
   ·intro e;have:=h.rpend t ht k hs;rw[e,hgs]at this;simp at this)
  rpend:=h.rpend
  has:=h.has
  rng:=fun t ht=>by have:=h.rng t ht;rw[List.length_set];exact this
  lt:=by rw[k2];exact h.lt
  size:=by rw[List.length_set];exact h.size
  fuse:=h.fuse
  ops:=h.ops
  long:=h.long },h2,k1⟩
theorem DvP.cleared {w w':World}{g:Nat}{ρ:Nat->Option DRol}{N:Nat}{d:Dv}{vs:Value}{gm:Nat}{m:Int->Option Value} (h:DvP w g ρ N d vs gm m) (hm:MapG kInt w' gm 0 (fun _=>none)) (hk:Keep (fun k=>k≠gm) w w') :
  DvP w' g ρ N { d with pend:=fun _=>[] } vs gm (fun _=>none):={
  head:=by rw[hk.block g h.ne h.glt];exact h.head
  rg:=h.rg
  safe:=h.safe.kept (hk.mono fun k hs _=>by
   rcases hs with hs|hs
   ·exact hs.elim
   ·exact(h.nvs k hs).2)
  rsafe:=h.rsafe
  map:=hm.mono (Nat.zero_le _)
  rm:=h.rm
  pend:=fun t ht=>OwnS.nil _ _ _ _ _
  rpend:=fun t ht k hk=>by simp[nilS,Value.ownBlock]at hk
  has:=fun t ht=>by simp
  rng:=fun t ht=>by simp at ht
  lt:=fun k hr=>Nat.lt_of_lt_of_le (h.lt k hr) hk.size
  size:=h.size
  fuse:=h.fuse
  ops:=h.ops
  long:=fun t=>by simp }
def z7 (d:Dv):Int × Dv:=if (opF d 0 0).1=0 then (0,{ (opF d 0 0).2 with safe:=(List.range d.safe.length).map fun (j:Nat)=>curF d (j:Int),pend:=fun _=>[] }) else opF d 0 0
theorem ze7 (w:World) (g:Nat) (ρ:Nat->Option DRol) (N:Nat) (d:Dv) (h:DvAt w g ρ N d) (hN:N<=1000000000) :
  Calls Tryz.prog 123 #[.pointer (some ⟨g,0,none⟩)] w (zhd w g ρ (N+1) (z7 d)):=by
 have H:=hid h;have hrg:ρ g=some .dev:=by obtain⟨_,_,_,h⟩:=h;exact h.rg
 have HRG:=hid hrg;clear h hrg;go_enter Tryz.func123,Tryz.ntmps123;go_wp2_with fail;refine(zaz w g ρ N d H.out hN 0 0 (by omega) (by omega)).mono ?_;rintro e w1 ⟨rfl,hd1,hk1⟩;obtain⟨hsm1,hsm2⟩:=zf8 d 0 0;by_cases hx:(opF d 0 0).1=0
 ·have HFL:=hid (show z7 d=(0,{ (opF d 0 0).2 with safe:=(List.range d.safe.length).map fun (j:Nat)=>curF d (j:Int),pend:=fun _=>[] }) by unfold z7;rw[if_pos hx]);have hcur : ∀ n,curF d n=curF (opF d 0 0).2 n:=fun n=>by unfold curF;rw[hsm1,hsm2]
  rw[hx];generalize (opF d 0 0).2=d1 at hd1 hsm1 hsm2 HFL hcur;obtain⟨vs,gm,m,hp⟩:=hd1;obtain⟨gs,sc,e,-⟩:=hp.safe.atBk 0 (by have:=hp.size;omega);subst e;obtain⟨w2,left,cnt,hrun,hmr,hla,hx2,hs2⟩:=hp.map.range Tryz.underlying63;have HP:=hid hp;have HP2:=hid (hp.ext hx2);have HST:=hid (zlw hp hla);have HMR:=hid hmr;have HX2:=hid hx2;have HK1:=hid hk1;have HSM:=hid hsm1;have HEQ:=hid (show ((List.range d1.safe.length).map fun (j:Nat)=>curF d1 (j:Int))=(List.range d.safe.length).map fun (j:Nat)=>curF d (j:Int) by
   rw[hsm1];exact List.map_congr_left fun j _=>(hcur j).symm)
  have c1:=hp.c1;obtain⟨r,hr⟩ : ∃ r,r=w1.heap.size:=⟨_,rfl⟩
  rw[<-hr]at hrun HMR;have hgr:g<r:=by rw[hr];exact hp.glt
  have hsr:gs<r:=by rw[hr];exact hp.lt gs (by rw[hp.rsafe gs rfl];simp)
  have hmrr:gm<r:=by rw[hr];exact hp.map.lt
  have HR:=hid hr;have HRL:=hid (fun k (h:ρ k≠none)=>hp.lt k h);have HS2:=hid hs2;clear hp hmr hla hx2 hk1 hsm1 hsm2 hcur hr hs2 hx;go_wp2_with fail;go_loopw [4] (fun _ wr=>∃ left cnt,MapR kInt wr gm r (N+1) m left cnt/\DvP wr g ρ (N+1) { d1 with safe:=j7 d1 left } (.slice (some ⟨gs,0,none⟩) d1.safe.length sc) gm m/\Keep (fun k=>ρ k=none/\k<r) w1 wr) (fun _ wr=>wr.rangeLeft gm r);case atStart=>exact⟨left,cnt,HMR.out,by rw[HST.out];exact HP2.out,HX2.out.keep _⟩
  case round=>
   clear HP HP2 HST HMR c1 hrun HS2 left cnt;obtain⟨left,cnt,hmr,hpr,hkr⟩:=hrel;go_wp2_with (first|(at_next;refine zml rfl _ rfl r rfl hmr ?_ ?_)|go_in)
   ·intro h0 hl0;rw[zpw hl0]at hpr;have HPR:=hid hpr;have c1:=hpr.c1;obtain⟨w3,hclr,hm3,hk3,hs3⟩:=hmr.map.clear Tryz.underlying63 0;have HC3:=hid (hpr.cleared hm3 hk3);have HK3:=hid hk3;have HKR:=hid hkr;have hgm:=hpr.rm;have HGM:=hid hgm;clear hm3 hk3 hkr hpr hgm hmr hs3;go_wp2_with fail;go_ret;refine⟨by rw[HFL.out];rfl,ρ,?_,?_,fun k h=>.inl h⟩
    ·rw[HFL.out,<-HEQ.out];exact⟨_,gm,_,HC3.out⟩
    ·have k1:Keep (fun k=>ρ k=none/\k<r) w w1:=HK1.out.mono fun j hj _ e=>by
      have:=hj.1;rw[e,HRG.out]at this;simp at this
     have k3:Keep (fun k=>ρ k=none/\k<r) wr w3:=HK3.out.mono fun j hj _ e=>by
      have:=hj.1;rw[e,HGM.out]at this;simp at this
     exact((k1.trans HKR.out).trans k3).mono fun j hj hl=>⟨hj,by have:=HK1.out.size;have:=HR.out;omega⟩
   ·intro x v w3 cnt' hxk hmx hlx hmr' hlt hk hs hen;have hp3:=hpr.keep (hk.mono fun k hk _ e=>by have:=HRL.out k hk;have:=HR.out;omega);have hne:d1.pend x≠[]:=(hpr.has x hxk).1 (by rw[hmx];rfl);obtain⟨hx0,hx1⟩:=hpr.rng x hne;have hx1:x<((j7 d1 left).length:Int):=hx1;rw[bp]at hx1;obtain⟨xn,rfl⟩ : ∃ xn:Nat,x=xn:=⟨x.toNat,by omega⟩
    have hxn:xn<d1.safe.length:=by omega
    obtain⟨q,hq⟩ : ∃ q,(d1.pend xn).length=q+1:=⟨(d1.pend xn).length-1,by have:=List.length_pos_iff.2 hne;omega⟩
    have hpd:OwnS rBk 85 w3 0 (fun _=>False) ((m xn).getD nilS) (d1.pend xn):=hp3.pend xn hxk;obtain⟨gl,lc,e,hgl,hlr,hll⟩:=hpd.atBk q (by omega);rw[hmx,hq]at e;simp only[Option.getD_some]at e;subst e;have HC:=hid (show curF d1 xn=(d1.pend xn)[q] by
     unfold curF;rw[List.getLast?_eq_getElem?,show (d1.pend xn).length-1=q by omega,List.getElem?_eq_getElem (by omega)];rfl)
    generalize (d1.pend xn)[q]=B at hlr hll HC;have hq2:q<=1000000001:=by have:(d1.pend xn).length<=N+1:=hpr.long xn;omega
    obtain⟨hsz1,hsz2⟩:=hpr.size;have hsz2:(j7 d1 left).length<=512:=hsz2;rw[bp]at hsz2;have hwq:IntKind.i64.wrap (q:Int)=q:=by rw[IntKind.wrap_i64];omega
    have hqq:(q:Int)<(q:Int)+1:=by omega
    have c0:=hp3.c0;have HP3:=hid hp3;have HKR:=hid hkr;have HMR2:=hid hmr';have HMR0:=hid hmr;have HK:=hid hk;have HLT:=hid hlt;have HBL:=hid hll;clear hp3 hkr hmr' hmr hk hlt hpr hmx hne hpd hq hx0 hx1 hlx hxk hsz1 hs;go_wp2_with fail;have hxd:Ext w3 w3.drew:=by(exact Ext.xt)
    obtain⟨hp4,hth,hk4⟩:=(HP3.out.ext hxd).setSafe xn (by show _<(j7 d1 left).length;rw[bp];exact hxn) HBL.out;have HP4:=hid hp4;have HK4:=hid hk4;have HTH:=hid hth;clear hp4 hk4 hth;refine jr (fun w'=>w'.cell? ⟨g,0,none⟩=some (.slice (some ⟨gs,0,none⟩) d1.safe.length sc)/\w'.rangeAt gl (q*512) (bvs B)) 12 (by kernel_rfl) ⟨Ext.cellS hxd c0,(World.rangeAt_drew _ _ _ _).2 hlr⟩ (fun hS=>?_);(refine zf 0 rfl ?_;(try simp only[Act.put,tq0,tq1,tq2,tq3,tq4,tq5]));(refine zf 1 rfl ?_;(try simp only[Act.put,tq0,tq1,tq2,tq3,tq4,tq5]));(refine zf 2 rfl ?_;(try simp only[Act.put,tq0,tq1,tq2,tq3,tq4,tq5]));(refine zf 3 rfl ?_;(try simp only[Act.put,tq0,tq1,tq2,tq3,tq4,tq5]));(refine zf 4 rfl ?_;(try simp only[Act.put,tq0,tq1,tq2,tq3,tq4,tq5]));(refine zf 5 rfl ?_;(try simp only[Act.put,tq0,tq1,tq2,tq3,tq4,tq5]));(refine zf 6 rfl ?_;(try simp only[Act.put,tq0,tq1,tq2,tq3,tq4,tq5]));(refine zf 7 rfl ?_;(try simp only[Act.put,tq0,tq1,tq2,tq3,tq4,tq5]));(refine zf 8 rfl ?_;(try simp only[Act.put,tq0,tq1,tq2,tq3,tq4,tq5]));(refine zf 9 rfl ?_;(try simp only[Act.put,tq0,tq1,tq2,tq3,tq4,tq5]));refine zax (i:=10) (v:=.agg (bvs B).toArray) rfl (by kernel_rfl) (by kernel_rfl) (by kernel_rfl) (by kernel_rfl) (fun _ _ _ h=>h) (yieldsIf_load_mid (by rfl) 85 _ rfl gl (q*512) rfl (bvs B) _ (fun W hW=>hW.2) Tryz.underlying85 rfl (by rw[jt];simp[bvs,HBL.out])) (by assumption) ?_;try simp only[Act.put,tq0,tq1,tq2,tq3,tq4,tq5]
    (refine zf 11 rfl ?_;(try simp only[Act.put,tq0,tq1,tq2,tq3,tq4,tq5]));(refine qb (i:=12) (by kernel_rfl) rfl (fun K hK=>?_));refine zel rfl _ _ rfl gs xn B rfl rfl HBL.out HTH.out ?_;(refine hK.out _ _ (fun h=>absurd rfl h) (fun _=>?_);clear hK K;refine js (by kernel_rfl) ?_ _);refine NoPanic.normal ?_;go_wp2_with fail;have hgms:gm≠gs:=fun e=>by have h1:=HP3.out.rm;have h2:=HP3.out.rsafe gs rfl;rw[e,h2]at h1;simp at h1
    have hmr:MapR kInt (w3.drew.setCells gs (xn*512) (bvs B)) gm r (N+1) m (fun z=>left z && !z.sameKey (.int .i64 (xn:Int))) cnt':=
     HMR2.out.keep (HK4.out.block gm hgms (by show gm<w3.heap.size;exact HMR2.out.lt.2.1)) (HK4.out.block r (by omega) (by show r<w3.heap.size;exact HMR2.out.lt.1))
    refine⟨⟨_,⟨cnt',hmr⟩,?_,?_⟩,?_⟩
    ·rw[<-znx hxn,HC.out];exact HP4.out
    ·refine HKR.out.trans (((HK.out.mono (fun k hk _=>by have:=hk.2;omega)).trans (hxd.keep _)).trans (HK4.out.mono fun k hk _ e=>?_));have h1:=HP3.out.rsafe gs rfl;have h2:=hk.1;rw[e,h1]at h2;simp at h2
    ·rw[hmr.left_eq,HMR0.out.left_eq];exact HLT.out
 ·generalize hX:opF d 0 0=X at hd1 hx;have HW:=hid (show z7 d=X by unfold z7;rw[hX,if_neg hx]);obtain⟨x1,d1⟩:=X;dsimp only at hx hd1;have HD1:=hid hd1;have HK1:=hid hk1;clear hd1 hk1 hX hsm1 hsm2;go_wp2_with fail;go_ret;refine⟨by rw[HW.out];rfl,ρ,by rw[HW.out];exact HD1.out,HK1.out.mono fun j hj _ e=>?_,fun k h=>.inl h⟩;rw[e,HRG.out]at hj;simp at hj
end
section
open Go.Shelf
def ziq:Go.Shelf.Ren:=⟨fun|7=>58|10=>100|n=>n,fun|23=>63|26=>3|3=>62|28=>136|0=>0|27=>135|33=>184|4=>4|n=>n,fun|n=>n⟩
theorem zue:Go.Proofs.SlLaysZI.n7 Tryz.prog ziq:={
 mixed:=by kernel_rfl
 f7:=⟨Tryz.f58.name,by decide,Tryz.func58.trans (congrArg some (by kernel_rfl))⟩
 f10:=⟨Tryz.f100.name,by decide,Tryz.func100.trans (congrArg some (by kernel_rfl))⟩
 t0:=Tryz.underlying0
 a0:=Tryz.isAgg0
 z0:=Tryz.sizeOf0
 v0:=Tryz.zeroValue0
 t4:=Tryz.underlying4
 a4:=Tryz.isAgg4
 z4:=Tryz.sizeOf4
 v4:=Tryz.zeroValue4
 t23:=Tryz.underlying63
 a23:=Tryz.isAgg63
 z23:=Tryz.sizeOf63
 v23:=Tryz.zeroValue63
 t26:=Tryz.underlying3
 a26:=Tryz.isAgg3
 z26:=Tryz.sizeOf3
 v26:=Tryz.zeroValue3
 t27:=Tryz.underlying135
 a27:=Tryz.isAgg135
 z27:=Tryz.sizeOf135
 v27:=Tryz.zeroValue135
 t28:=Tryz.underlying136
 a28:=Tryz.isAgg136
 z28:=Tryz.sizeOf136
 v28:=Tryz.zeroValue136
 t33:=Tryz.underlying184
 a33:=Tryz.isAgg184
 z33:=Tryz.sizeOf184
 v33:=Tryz.zeroValue184 }
def zfw:Go.Shelf.Ren:=⟨fun|6=>57|8=>98|9=>99|11=>146|13=>148|12=>147|23=>179|24=>180|14=>170|15=>171|16=>172|17=>173|18=>174|19=>175|20=>176|21=>177|22=>178|25=>189|26=>190|27=>191|28=>192|29=>193|30=>194|31=>208|n=>n,fun|26=>3|28=>136|24=>23|0=>0|3=>3|37=>170|48=>172|50=>118|4=>4|40=>268|39=>267|45=>273|5=>5|9=>9|51=>284|55=>288|57=>298|58=>299|33=>184|n=>n,fun|n=>n⟩
theorem zu3:Go.Proofs.SlLaysZI.n6 Tryz.prog zfw:={
 mixed:=by kernel_rfl
 f6:=⟨Tryz.f57.name,by decide,Tryz.func57.trans (congrArg some (by kernel_rfl))⟩
 f8:=⟨Tryz.f98.name,by decide,Tryz.func98.trans (congrArg some (by kernel_rfl))⟩
 f11:=⟨Tryz.f146.name,by decide,Tryz.func146.trans (congrArg some (by kernel_rfl))⟩
 t0:=Tryz.underlying0
 a0:=Tryz.isAgg0
 z0:=Tryz.sizeOf0
 v0:=Tryz.zeroValue0
 t24:=Tryz.underlying23
 a24:=Tryz.isAgg23
 z24:=Tryz.sizeOf23
 v24:=Tryz.zeroValue23
 t26:=Tryz.underlying3
 a26:=Tryz.isAgg3
 z26:=Tryz.sizeOf3
 v26:=Tryz.zeroValue3
 t28:=Tryz.underlying136
 a28:=Tryz.isAgg136
 z28:=Tryz.sizeOf136
 v28:=Tryz.zeroValue136
 i26:=by kernel_rfl }
def zpq:Go.Shelf.Ren:=⟨fun|5=>99|8=>148|7=>147|19=>179|20=>180|10=>170|11=>171|12=>172|13=>173|14=>174|15=>175|16=>176|17=>177|18=>178|30=>189|31=>190|32=>191|33=>192|34=>193|35=>194|40=>208|n=>n,fun|23=>23|25=>3|3=>3|32=>170|22=>23|0=>0|44=>172|46=>118|4=>4|36=>268|35=>267|41=>273|5=>5|9=>9|53=>284|57=>288|63=>298|64=>299|n=>n,fun|n=>n⟩
theorem zt9:Go.Proofs.SlLaysM.n5 Tryz.prog zpq:={
 mixed:=by kernel_rfl
 f5:=⟨Tryz.f99.name,by decide,Tryz.func99.trans (congrArg some (by kernel_rfl))⟩
 f7:=⟨Tryz.f147.name,by decide,Tryz.func147.trans (congrArg some (by kernel_rfl))⟩
 f8:=Tryz.func148.trans (congrArg some (by kernel_rfl))
 f10:=⟨Tryz.f170.name,by decide,Tryz.func170.trans (congrArg some (by kernel_rfl))⟩
 f11:=⟨Tryz.f171.name,by decide,Tryz.func171.trans (congrArg some (by kernel_rfl))⟩
 f12:=⟨Tryz.f172.name,by decide,Tryz.func172.trans (congrArg some (by kernel_rfl))⟩
 f13:=⟨Tryz.f173.name,by decide,Tryz.func173.trans (congrArg some (by kernel_rfl))⟩
 f14:=⟨Tryz.f174.name,by decide,Tryz.func174.trans (congrArg some (by kernel_rfl))⟩
 f15:=⟨Tryz.f175.name,by decide,Tryz.func175.trans (congrArg some (by kernel_rfl))⟩
 f16:=⟨Tryz.f176.name,by decide,Tryz.func176.trans (congrArg some (by kernel_rfl))⟩
 f17:=⟨Tryz.f177.name,by decide,Tryz.func177.trans (congrArg some (by kernel_rfl))⟩
 f18:=⟨Tryz.f178.name,by decide,Tryz.func178.trans (congrArg some (by kernel_rfl))⟩
 f19:=Tryz.func179.trans (congrArg some (by kernel_rfl))
 f20:=Tryz.func180.trans (congrArg some (by kernel_rfl))
 f30:=⟨Tryz.f189.name,by decide,Tryz.func189.trans (congrArg some (by kernel_rfl))⟩
 f31:=Tryz.func190.trans (congrArg some (by kernel_rfl))
 f32:=Tryz.func191.trans (congrArg some (by kernel_rfl))
 f33:=⟨Tryz.f192.name,by decide,Tryz.func192.trans (congrArg some (by kernel_rfl))⟩
 f34:=⟨Tryz.f193.name,by decide,Tryz.func193.trans (congrArg some (by kernel_rfl))⟩
 f35:=⟨Tryz.f194.name,by decide,Tryz.func194.trans (congrArg some (by kernel_rfl))⟩
 f40:=⟨Tryz.f208.name,by decide,Tryz.func208.trans (congrArg some (by kernel_rfl))⟩
 t0:=Tryz.underlying0
 a0:=Tryz.isAgg0
 z0:=Tryz.sizeOf0
 v0:=Tryz.zeroValue0
 t3:=Tryz.underlying3
 a3:=Tryz.isAgg3
 z3:=Tryz.sizeOf3
 v3:=Tryz.zeroValue3
 t4:=Tryz.underlying4
 a4:=Tryz.isAgg4
 z4:=Tryz.sizeOf4
 v4:=Tryz.zeroValue4
 t5:=Tryz.underlying5
 a5:=Tryz.isAgg5
 z5:=Tryz.sizeOf5
 v5:=Tryz.zeroValue5
 t9:=Tryz.underlying9
 a9:=Tryz.isAgg9
 z9:=Tryz.sizeOf9
 v9:=Tryz.zeroValue9
 t22:=Tryz.underlying23
 a22:=Tryz.isAgg23
 z22:=Tryz.sizeOf23
 v22:=Tryz.zeroValue23
 t23:=Tryz.underlying23
 a23:=Tryz.isAgg23
 z23:=Tryz.sizeOf23
 v23:=Tryz.zeroValue23
 t25:=Tryz.underlying3
 a25:=Tryz.isAgg3
 z25:=Tryz.sizeOf3
 v25:=Tryz.zeroValue3
 t32:=Tryz.underlying170
 a32:=Tryz.isAgg170
 z32:=Tryz.sizeOf170
 v32:=Tryz.zeroValue170
 t35:=Tryz.underlying267
 a35:=Tryz.isAgg267
 z35:=Tryz.sizeOf267
 v35:=Tryz.zeroValue267
 t36:=Tryz.underlying268
 a36:=Tryz.isAgg268
 z36:=Tryz.sizeOf268
 v36:=Tryz.zeroValue268
 t41:=Tryz.underlying273
 a41:=Tryz.isAgg273
 z41:=Tryz.sizeOf273
 v41:=Tryz.zeroValue273
 t44:=Tryz.underlying172
 a44:=Tryz.isAgg172
 z44:=Tryz.sizeOf172
 v44:=Tryz.zeroValue172
 t46:=Tryz.underlying118
 a46:=Tryz.isAgg118
 z46:=Tryz.sizeOf118
 v46:=Tryz.zeroValue118
 t53:=Tryz.underlying284
 a53:=Tryz.isAgg284
 z53:=Tryz.sizeOf284
 v53:=Tryz.zeroValue284
 t57:=Tryz.underlying288
 a57:=Tryz.isAgg288
 z57:=Tryz.sizeOf288
 v57:=Tryz.zeroValue288
 t63:=Tryz.underlying298
 a63:=Tryz.isAgg298
 z63:=Tryz.sizeOf298
 v63:=Tryz.zeroValue298
 t64:=Tryz.underlying299
 a64:=Tryz.isAgg299
 z64:=Tryz.sizeOf299
 v64:=Tryz.zeroValue299 }
end
end Go.Proofs.YtnadlnmclameiaaGreatDoor
