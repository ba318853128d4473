/- part 24 -/
import Derived.Test.YtnadlnmclameiaaGreatDoorTS23
import Derived.OrdersIn
set_option maxRecDepth 100000
set_option maxHeartbeats 8000000
set_option linter.all false
namespace Go.Proofs.YtnadlnmclameiaaGreatDoor
section
open Go.RowKit
section
variable {P:Program}{ops:Array Oper}{Q:Exit->Act->World->Prop}{md:Region.Mode}{l n:Nat}
def zdc (ops:Array Oper):Bool:=ops.all fun o=>match o.op with
 | .defer _=>false
 | _=>true
theorem zkl (h:zdc ops=true) {i:Nat}{o:Oper} (hi:ops[i]? = some o) (c:Call):o.op≠ .defer c:=by
 intro e;unfold zdc at h;rw[Array.all_eq_true]at h;obtain⟨hlt,hget⟩:=Array.getElem?_eq_some_iff.1 hi;have:=h i hlt;rw[hget,e]at this;cases this
theorem zjk {i:Nat}{K:Act->World->Prop}{a:Act}{w:World} (hno : ¬ LetsOut Q) (hd:zdc ops=true) (h:wpOp P ops Q i K a w):wpOpIn (Fence.wide.inRound l) n P ops Q i K a w:=by
 unfold wpOp at h;unfold wpOpIn;cases hi:ops[i]? with
 | none=>rw[hi]at h;exact h
 | some o=>
  rw[hi]at h;dsimp only at h ⊢;by_cases hw:Region.wanted o (yielded ops a.tmps)=true
  ·rw[if_pos hw]at h ⊢;rcases h with h|h
   ·refine⟨fun _ _=>trivial,?_⟩;rw[Fence.inRound_round,Oper.semAt_some l _ _ (fun c=>zkl hd hi c)];unfold Oper.wp at h;generalize (execOp a.eval o).run P w=r at h ⊢;cases r with
    | ok x w'=>
     cases x;case enter f args=>exact⟨fun h=>by simp[Fence.wide]at h,CallsIn.inRound l (callsIn_wide.2 h)⟩
     case row row args=>exact⟨fun h=>by simp[Fence.wide]at h,fun c cs _=>let ⟨v,w',r,s⟩:=h c cs;⟨v,w',r,stepsIn_wide.2 s⟩⟩
     case round=>exact(h:False).elim
     all_goals exact h
    | halt x w'=>cases x <;> first|exact h|exact(h:False).elim
   ·exact absurd h.2 hno
  ·rw[if_neg hw]at h ⊢;exact⟨fun _ _=>trivial,h⟩
theorem zd7 (hno : ¬ LetsOut Q) (hd:zdc ops=true) : ∀ (fuel:Nat) (listed:Array Bool) (a:Act) (w:World),wpAny P md ops Q fuel listed a w->wpAnyIn (Fence.wide.inRound l) n P md ops Q fuel listed a w
 | 0,_,_,_,h=>h
 | fuel+1,_,_,_,h=>⟨h.1,fun i hi=>wpOpIn_mono (fun a' w' k=>zd7 hno hd fuel _ a' w' k) (zjk hno hd (h.2 i hi))⟩
theorem zi8 (hno : ¬ LetsOut Q) : ¬ LetsOut (NoPanic Q):=fun ⟨a,w,h⟩=>hno ⟨a,w,h⟩
theorem zbh (S:World->Prop) (F:List Nat) {id:Nat}{a:Act}{w:World} (hm:P.follows .mixedOrders=true) (hno : ¬ LetsOut Q) (hd:zdc ops=true) (hS:S w.drew)
  (h:S w.drew->k8 P .any ops (NoPanic Q) S F ops.size (Array.replicate ops.size false) a w.drew):(Code.region id ops true).wpIn (Fence.wide.inRound l) n P Q a w:=
 wpIn_mono (wpIn_region_any hm (zd7 (zi8 hno) hd _ _ _ _ (zdh _ _ _ _ (h hS)))) NoPanic.imp
end
end
section
open Go.RowKit
theorem zq2:(Tryz.prog.info? 209).map (fun i=>(i.zero,i.size,i.bytes))=some (some (.agg #[.int .i64 0,.int .i64 0]),2,16):=by kernel_rfl
theorem zq0 {α:Type} (r:Rdr α) {w:World}{o:Oper}{a:Act}{K:Act->World->Prop}{Q:Exit->Act->World->Prop} (s x:Operand) (ts tx t:TypeId) (z:Value) (bytes:Nat)
  (ho:o.op = .call { callee:=.builtin .append,args:=#[s,x],argTypes:=#[ts,tx] }) (hts:Tryz.prog.underlying ts=some (.slice t)) (hinfo:(Tryz.prog.info? t).map (fun i=>(i.zero,i.size,i.bytes))=some (some z,r.size,bytes)) (hzs:z.cells.size=r.size) (base:Nat) (S:Nat->Prop)
  (v:Value) (xs:List α) (hs:a.eval s=v) (happ:OwnS r t w base S v xs)
  (y:Value) (gs:List (List Value × α)) (hx:a.eval x=y) (hsrc:Src Tryz.prog r.size tx y gs.length (cellsOf gs) w) (hgs : ∀ p∈gs,r.rd w S p.1 p.2) (hSlt : ∀ k,S k->k<w.heap.size)
  (hbytes:(xs.length+gs.length)*bytes<=140737488355328) (h63:xs.length+gs.length<=9223372036854775807) (hbase:base<=w.heap.size)
  (h : ∀ v' w',OwnS r t w' base S v' (xs++gs.map (·.2))->w.grownBy w' v.ownBlock->(∀ k,v'.ownBlock=some k->v.ownBlock=some k\/w.heap.size<=k)->K (a.put o.dst v') w'):o.wp Tryz.prog a w K Q:=by
 obtain⟨i0,hi,hz0,hz1,hz2⟩:=info_parts hinfo;obtain⟨hs0,rfl,g2,gS,g3⟩:=happ;rw[List.length_map]at hbytes h63;refine ka s x ts tx ho base t i0 z r.size bytes hts hi hz0 hz1 hz2 hzs v hs0.length (cellsOf hs0) hs (.inl g2) (fun u hu=>by obtain⟨p,hp,hu⟩:=List.mem_flatMap.1 hu;exact r.one (g3 p hp) u hu) y gs.length (cellsOf gs) hx hsrc h63 hbytes hbase ?_;intro v' w' h1 h2 h3 h4 h5 h6;refine h v' w' ⟨hs0++gs,by simp,?_,fun k hk hSk=>?_,fun p hp=>?_⟩ h4 h6
 ·rw[List.length_append,show cellsOf (hs0++gs)=cellsOf hs0++cellsOf gs from by simp[cellsOf]];exact h3 g2
 ·rcases h6 k hk with hh|hh
  ·exact gS k hh hSk
  ·have:=hSlt k hSk;omega
 ·have all:r.rd w S p.1 p.2:=by
   rcases List.mem_append.1 hp with hp|hp
   ·exact g3 p hp
   ·exact hgs p hp
  exact r.keep all h4.size (fun k hk hl=>h4.block k hl (fun e=>gS k e.symm hk)) fun _ h _=>h
theorem zq1 {w:World}{gb:Nat}{cs:List Value}{t ts:TypeId}{size:Nat} (hts:Tryz.prog.underlying ts=some (.slice t)) (hrow:w.heap[gb]? = some (.cells cs.toArray t (0,0))) (h1 : ∀ u∈cs,u.oneCell'=true) (hl:cs.length=1*size):Src Tryz.prog size ts (.slice (some ⟨gb,0,none⟩) 1 1) 1 cs w:=by
 refine Src.ofSlice _ hts ⟨gb,0,none⟩ 1 1 cs hl (fun j u hu=>?_) h1;rw[show (⟨gb,0,none⟩:Addr).add j=⟨gb,j,none⟩ from by unfold Addr.add;split <;> simp_all,cell_of_row _ _ _ _ _ _ hrow];simpa using hu
theorem zfu {w:World}{ops:Array Oper}{o:Oper}{a:Act}{K:Act->World->Prop}{Q:Exit->Act->World->Prop}{E:Prop} (hgd:o.guard=none) (s x:Operand)
  (ho:o.op = .call { callee:=.builtin .append,args:=#[s,x],argTypes:=#[176,176] }) (base:Nat)
  (v:Value) (xs:List (Int × Int)) (hs:a.eval s=v) (happ:OwnS rRn 209 w base (fun _=>False) v xs)
  (e:Int × Int) (h0 : -9223372036854775808<=e.1/\e.1<=9223372036854775807) (h1 : -9223372036854775808<=e.2/\e.2<=9223372036854775807) (gb:Nat) (hx:a.eval x = .slice (some ⟨gb,0,none⟩) 1 1)
  (hrow:w.heap[gb]? = some (.cells #[.int .i64 e.1,.int .i64 e.2] 209 (0,0))) (hl:xs.length<=1000000) (hbase:base<=w.heap.size)
  (h : ∀ v' w',OwnS rRn 209 w' base (fun _=>False) v' (xs++[e])->w.grownBy w' v.ownBlock->(∀ k,v'.ownBlock=some k->v.ownBlock=some k\/w.heap.size<=k)->K (a.put o.dst v') w') :
  if Region.wanted o (yielded ops a.tmps)=true then Oper.wp Tryz.prog o a w K Q else E:=by
 have hw:Region.wanted o (yielded ops a.tmps)=true:=by simp[Region.wanted,hgd]
 rw[if_pos hw];refine zq0 rRn s x 176 176 209 _ 16 ho Tryz.underlying176 zq2 rfl base _ v xs hs happ _ [([.int .i64 e.1,.int .i64 e.2],e)] hx ?_ ?_ (fun _ h=>h.elim) (by simp;omega) (by simp;omega) hbase ?_
 ·refine zq1 Tryz.underlying176 hrow (fun u hu=>?_) rfl;simp only[cellsOf,List.flatMap_cons,List.flatMap_nil,List.append_nil,List.mem_cons,List.not_mem_nil,or_false]at hu;rcases hu with rfl|rfl <;> rfl
 ·intro p hp;obtain rfl:=List.mem_singleton.1 hp;exact⟨[_],_,rfl,⟨rfl,h0⟩,rfl,h1⟩
 ·intro v' w' k1 k2 k3;exact h v' w' k1 k2 k3
end
def runI (r:Nat × Nat):Int × Int:=((r.1:Int),(r.2:Int))
section
open Go.RowKit Go.Shelf
attribute [local go_sem] Oper.semAt_some
def xp (now:List Bool) (l:List Nat):List Bool:=l.foldl (fun m i=>m.set i true) now
theorem vg (now:List Bool) (l:List Nat):(xp now l).length=now.length:=by
 unfold xp;induction l generalizing now with
 | nil=>rfl
 | cons a l ih=>rw[List.foldl_cons,ih,List.length_set]
theorem zlu (now:List Bool) (l:List Nat) (i:Nat):xp now (l++[i])=(xp now l).set i true:=by simp[xp]
theorem zs6 (now last:List Bool):(qo now last).length<=now.length:=by
 unfold qo yt;have:=List.length_filter_le (xl now last) (List.range now.length);rwa [List.length_range]at this
theorem zez : ∀ (rs:List (Nat × Nat)),(∀ r∈rs,1<=r.2)->rs.length<=(flat rs).length
 | [],_=>Nat.zero_le _
 | r :: l,h=>by
  have h1:=zez l fun r hr=>h r (List.mem_cons_of_mem _ hr);have h2:=h r List.mem_cons_self;rw[show flat (r :: l)=List.range' r.1 r.2++flat l from rfl,List.length_append,List.length_range',List.length_cons];omega
def TkI (T:Nat->Prop) (w:World) (B g B2 B3 Bl:Nat) (vn vl:Value) (now last:List Bool) (C:Blk) (l:List Nat) (k:Nat) (V:World):Prop:=
 C B3/\C Bl/\(∀ j,vn.ownBlock=some j->C j)/\V.heap[B3]? = some (.cells #[.int .i64 (k:Int)] 3 (0,0))/\V.heap[B2]? = some (.cells #[.pointer (some ⟨g,0,none⟩)] 146 (0,0))/\V.heap[g]? = some (.cells #[vn,vl] 201 (0,0))/\
  OwnS rBo 4 V 0 (fun _=>False) vn (xp now l)/\OwnS rBo 4 V 0 (fun _=>False) vl last/\
  (∃ lv rs,V.heap[Bl]? = some (.cells #[lv] 176 (0,0))/\Canon rs/\flat rs=l/\OwnS rRn 209 V B (fun _=>False) lv (rs.map runI)/\∀ j,lv.ownBlock=some j->C j)/\
  Keep (fun j=>¬ T j/\j<w.heap.size) w V
theorem TkI.stab {T:Nat->Prop}{w:World}{B g B2 B3 Bl:Nat}{vn vl:Value}{now last:List Bool}{C:Blk}{l:List Nat}{k:Nat}{V V':World} (h:TkI T w B g B2 B3 Bl vn vl now last C l k V) (hk:Keep (fun j=>j<B\/C j) V V')
  (hw:w.heap.size<=B) (h2:B2<B) (hg:g<B) (hvl : ∀ j,vl.ownBlock=some j->j<B):TkI T w B g B2 B3 Bl vn vl now last C l k V':=by
 obtain⟨q1,q2,q3,q4,q5,q6,q7,q8,⟨lv,rs,p1,p2,p3,p4,p5⟩,q9⟩:=h;exact⟨q1,q2,q3,(hk.block _ (.inr q1) (blt q4)).trans q4,(hk.block _ (.inl h2) (blt q5)).trans q5,(hk.block _ (.inl hg) (blt q6)).trans q6,
  q7.kept (hk.mono fun j hj _=>by rcases hj with h|h;exact h.elim;exact .inr (q3 j h)),q8.kept (hk.mono fun j hj _=>by rcases hj with h|h;exact h.elim;exact .inl (hvl j h)),
  ⟨lv,rs,(hk.block _ (.inr q2) (blt p1)).trans p1,p2,p3,p4.kept (hk.mono fun j hj _=>by rcases hj with h|h;exact h.elim;exact .inr (p5 j h)),p5⟩,
  q9.trans (hk.mono fun j hj _=>.inl (by have:=hj.2;omega))⟩
theorem TkI.fin {T:Nat->Prop}{w:World}{B g B2 B3 Bl:Nat}{vn vl:Value}{now last:List Bool}{C:Blk}{l:List Nat}{k:Nat}{V:World}{D:Nat}{o:Obj} (h:TkI T w B g B2 B3 Bl vn vl now last C l k V) (hm:MapAt T w g now last) (hg:g<w.heap.size)
  (hrow:w.heap[g]? = some (.cells #[vn,vl] 201 (0,0))) (hD:B<=D) (hCD : ¬ C D) (hw:w.heap.size<=B) (hvl : ∀ j,vl.ownBlock=some j->j<B) {lv:Value}{rs:List (Nat × Nat)} (p1:V.heap[Bl]? = some (.cells #[lv] 176 (0,0))) (p2:Canon rs) (p3:flat rs=l) (p4:OwnS rRn 209 V B (fun _=>False) lv (rs.map runI)) (p5 : ∀ j,lv.ownBlock=some j->C j) :
  Canon rs/\flat rs=l/\OwnS rRn 209 (V.putObj D o) w.heap.size (fun _=>False) lv (rs.map runI)/\MapAt T (V.putObj D o) g (xp now l) last/\Keep (fun j=>¬ T j) w (V.putObj D o):=by
 obtain⟨q1,q2,q3,q4,q5,q6,q7,q8,-,q9⟩:=h;obtain⟨vn',vl',e1,e2,e3,e4,e5,e6,e7,e8⟩:=hm;rw[hrow]at e1;simp only[Option.some.injEq,Obj.cells.injEq,and_true,Array.mk.injEq,List.cons.injEq]at e1;obtain⟨rfl,rfl⟩:=e1;have hk : ∀ X:Nat->Prop,¬ X D->Keep X V (V.putObj D o):=fun X hX=>qq V D o hX;refine⟨p2,p3,(p4.low hw).kept (hk _ fun h=>by rcases h with h|h;exact h;exact hCD (p5 D h)),⟨_,_,((hk (fun j=>j=g) (fun e=>by omega)).block g rfl (blt q6)).trans q6,q7.kept (hk _ fun h=>by rcases h with h|h;exact h;exact hCD (q3 D h)),q8.kept (hk _ fun h=>by rcases h with h|h;exact h;(have:=hvl D h;omega)),by rw[vg];exact e4,by rw[vg];exact e5,e6,e7,e8⟩,?_⟩;exact(q9.trans (hk _ fun h=>by have:=h.2;omega)).mono fun j hj hl=>⟨hj,hl⟩
theorem zph {T:Nat->Prop}{w:World}{B g B2 B3 Bl:Nat}{vn vl:Value}{now last:List Bool}{C:Blk}{l l':List Nat}{k k' L:Nat}{V₂ WF:World} (h:TkI T w B g B2 B3 Bl vn vl now last C l k V₂) (hL : ∀ j,C j->j<L) (hLs:L<=V₂.heap.size)
  (hk:Keep (fun j=>¬ (C j\/L<=j)) V₂ WF) (hk2:Keep (fun j=>j<B/\j≠B3/\j≠Bl/\vn.ownBlock≠some j) V₂ WF) (hB2:B2<B/\B2≠B3/\B2≠Bl/\vn.ownBlock≠some B2) (hg:g<B/\g≠B3/\g≠Bl/\vn.ownBlock≠some g) (hvl : ∀ j,vl.ownBlock=some j->j<B/\j≠B3/\j≠Bl/\vn.ownBlock≠some j)
  (hT : ∀ j,¬ T j->j<w.heap.size->j<B/\j≠B3/\j≠Bl/\vn.ownBlock≠some j)
  (r3:WF.heap[B3]? = some (.cells #[.int .i64 (k':Int)] 3 (0,0))) {lv':Value}{rs':List (Nat × Nat)} (rl:WF.heap[Bl]? = some (.cells #[lv'] 176 (0,0))) (hc:Canon rs') (hf:flat rs'=l') (ho:OwnS rRn 209 WF B (fun _=>False) lv' (rs'.map runI)) (hown : ∀ j,lv'.ownBlock=some j->C j\/L<=j)
  (hn:OwnS rBo 4 WF 0 (fun _=>False) vn (xp now l')) :
  ∃ C',Goes (fun j=>C j\/L<=j) V₂ C' WF/\TkI T w B g B2 B3 Bl vn vl now last C' l' k' WF:=by
 obtain⟨q1,q2,q3,q4,q5,q6,q7,q8,-,q9⟩:=h;refine⟨fun j=>C j\/lv'.ownBlock=some j,⟨hk,fun j hj=>?_⟩,.inl q1,.inl q2,fun j hj=>.inl (q3 j hj),r3,(hk2.block _ hB2 (blt q5)).trans q5,(hk2.block _ hg (blt q6)).trans q6,hn,q8.kept (hk2.mono fun j hj _=>by rcases hj with h|h;exact h.elim;exact hvl j h),⟨lv',rs',rl,hc,hf,ho,fun j hj=>.inr hj⟩,q9.trans (hk2.mono fun j hj _=>hT j hj.1 hj.2)⟩;have hs:=hk.size;rcases hj with h|h
 ·exact⟨.inl (.inl h),by have:=hL j h;omega⟩
 ·exact⟨.inl (hown j h),(ho.lt j h).2⟩
theorem znn (a k m:Nat) (h:m<=k):(List.range' a k).take m=List.range' a m:=by
 obtain⟨d,rfl⟩ : ∃ d,k=m+d:=⟨k-m,by omega⟩
 rw[<-List.range'_append_1,List.take_left' (by simp)]
theorem zjt {T:Nat->Prop}{w:World}{B g B2 B3 Bl:Nat}{vl:Value}{now last:List Bool}{C:Blk}{n x0 xk m L Bx gN nc k0 lc c':Nat}{pre rs:List (Nat × Nat)}{V₂ V3 V4 w':World}{la a':Option Addr}{Z:Int}
  (hI:TkI T w B g B2 B3 Bl (.slice (some ⟨gN,0,none⟩) now.length nc) vl now last C ((flat pre).take n) (n-(flat pre).length) V₂)
  (hok:zlc now last (pre++[(x0,xk)])) (hk0:k0=n-(flat pre).length) (h0:0<k0) (hm:(xk<=k0/\m=xk)\/(k0<xk/\m=k0)) (hm1:1<=m)
  (hL : ∀ j,C j->j<L) (hLs:L<=V₂.heap.size) (hBx:L<=Bx) (hBL:B<=L) (hrs:Canon rs) (hfl:flat rs=flat pre)
  (hk4:Keep (fun j=>j≠Bx) V₂ V3) (hkk:Keep (fun j=>j≠gN) V3 V4) (hkg:Keep (fun j=>¬ (Value.slice la rs.length lc).ownBlock=some j) V4 w')
  (hla : ∀ j,(Value.slice la rs.length lc).ownBlock=some j->C j/\B<=j)
  (ho:OwnS rBo 4 V4 0 (fun _=>False) (.slice (some ⟨gN,0,none⟩) now.length nc) (xp now (flat pre++List.range' x0 m)))
  (hown:OwnS rRn 209 w' B (fun _=>False) (.slice a' (rs.length+1) c') (rs.map runI++[runI (x0,m)]))
  (hk3 : ∀ k,(Value.slice a' (rs.length+1) c').ownBlock=some k->(Value.slice la rs.length lc).ownBlock=some k\/L<=k)
  (r3:w'.heap[B3]? = some (.cells #[.int .i64 (k0:Int)] 3 (0,0))) (rl:w'.heap[Bl]? = some (.cells #[.slice la rs.length lc] 176 (0,0)))
  (hlt:B2<B/\B3<B/\Bl<B/\g<B/\gN<B) (hne:B2≠B3/\B2≠Bl/\B2≠gN/\g≠B3/\g≠Bl/\g≠gN/\gN≠B3/\gN≠Bl/\B3≠Bl)
  (hvl : ∀ j,vl.ownBlock=some j->j<B/\j≠B3/\j≠Bl/\j≠gN) (hT : ∀ j,¬ T j->j<w.heap.size->j<B/\j≠B3/\j≠Bl/\j≠gN) (hCg:C gN) (hC3:C B3) (hCl:C Bl)
  (hZ:Z=((k0-m:Nat):Int)) :
  ∃ C',Goes (fun j=>C j\/L<=j) V₂ C' ((w'.setCell ⟨Bl,0,none⟩ (.slice a' (rs.length+1) c')).setCell ⟨B3,0,none⟩ (.int .i64 Z))/\
   TkI T w B g B2 B3 Bl (.slice (some ⟨gN,0,none⟩) now.length nc) vl now last C' ((flat (pre++[(x0,xk)])).take n) (n-(flat (pre++[(x0,xk)])).length) ((w'.setCell ⟨Bl,0,none⟩ (.slice a' (rs.length+1) c')).setCell ⟨B3,0,none⟩ (.int .i64 Z)):=by
 obtain⟨l1,l2,l3,l4,l5⟩:=hlt;obtain⟨n1,n2,n3,n4,n5,n6,n7,n8,n9⟩:=hne;have hobN : ∀ j,(Value.slice (some ⟨gN,0,none⟩) now.length nc).ownBlock=some j->j=gN:=fun j hj=>by
  simp only[Value.ownBlock,Option.map_some,Option.some.injEq]at hj;exact hj.symm
 have hpre:Canon pre:=⟨fun r hr=>hok.1.1 r (by simp[hr]),(List.pairwise_append.1 hok.1.2).1⟩
 obtain rfl:=ze0 hrs hpre hfl;have hc':Canon (rs++[(x0,m)]):=by
  refine hpre.snoc hm1 fun r hr=>?_;exact(List.pairwise_append.1 hok.1.2).2.2 r hr (x0,xk) (by simp)
 have hlen:(flat (rs++[(x0,xk)])).length=(flat rs).length+xk:=by rw[xw,jl,List.length_append,List.length_range']
 have htk:(flat (rs++[(x0,xk)])).take n=flat (rs++[(x0,m)]):=by
  rw[xw,xw,jl,jl,List.take_append,List.take_of_length_le (by omega)];congr 1
  rcases hm with⟨h1,rfl⟩|⟨h1,rfl⟩
  ·exact List.take_of_length_le (by rw[List.length_range'];omega)
  ·rw[<-hk0];exact znn _ _ _ (by omega)
 have hkn:n-(flat (rs++[(x0,xk)])).length=k0-m:=by omega
 have hsB : ∀ S:Nat->Prop,¬ S Bl->¬ S B3->Keep S w' ((w'.setCell ⟨Bl,0,none⟩ (.slice a' (rs.length+1) c')).setCell ⟨B3,0,none⟩ (.int .i64 Z)):=fun S h1 h2=>((Keep.refl S w').setCell (p:=⟨Bl,0,none⟩) h1 _).setCell (p:=⟨B3,0,none⟩) h2 _;have hall:Keep (fun j=>j≠Bx/\j≠gN/\¬ (Value.slice la rs.length lc).ownBlock=some j/\j≠Bl/\j≠B3) V₂ ((w'.setCell ⟨Bl,0,none⟩ (.slice a' (rs.length+1) c')).setCell ⟨B3,0,none⟩ (.int .i64 Z)):=
  (((hk4.mono fun j hj _=>hj.1).trans (hkk.mono fun j hj _=>hj.2.1)).trans (hkg.mono fun j hj _=>hj.2.2.1)).trans (hsB _ (fun h=>h.2.2.2.1 rfl) (fun h=>h.2.2.2.2 rfl))
 rw[htk,hkn];refine zph hI hL hLs (hall.mono fun j hj _=>⟨fun e=>hj (.inr (by omega)),fun e=>hj (.inl (e▸hCg)),fun e=>hj (.inl (hla j e).1),fun e=>hj (.inl (e▸hCl)),fun e=>hj (.inl (e▸hC3))⟩)
  (hall.mono fun j hj _=>⟨by omega,fun e=>hj.2.2.2 (by subst e;rfl),fun e=>by have:=(hla j e).2;omega,hj.2.2.1,hj.2.1⟩)
  ⟨l1,n1,n2,fun e=>n3 (hobN _ e)⟩ ⟨l4,n4,n5,fun e=>n6 (hobN _ e)⟩ (fun j hj=>⟨(hvl j hj).1,(hvl j hj).2.1,(hvl j hj).2.2.1,fun e=>(hvl j hj).2.2.2 (hobN _ e)⟩) (fun j h1 h2=>⟨(hT j h1 h2).1,(hT j h1 h2).2.1,(hT j h1 h2).2.2.1,fun e=>(hT j h1 h2).2.2.2 (hobN _ e)⟩)
  ?_ (lv':=.slice a' (rs.length+1) c') (rs':=rs++[(x0,m)]) ?_ hc' rfl ?_ (fun j hj=>?_) ?_
 ·rw[<-hZ];have e1:(w'.setCell ⟨Bl,0,none⟩ (.slice a' (rs.length+1) c')).heap[B3]? = _:=(Below.heap_setCell _ _ _ _ (show B3≠Bl from n9)).trans r3;exact(kv e1 _).trans (by simp)
 ·refine(Below.heap_setCell _ _ _ _ (show Bl≠B3 from fun e=>n9 e.symm)).trans ((kv rl _).trans (by simp))
 ·rw[List.map_append,List.map_singleton];exact hown.kept (hsB _ (fun h=>by rcases h with h|h;exact h;(have:=(hown.lt _ h).1;omega)) (fun h=>by rcases h with h|h;exact h;(have:=(hown.lt _ h).1;omega)))
 ·rcases hk3 j hj with h|h
  ·exact .inl (hla j h).1
  ·exact .inr h
 ·rw[xw,jl];exact(ho.kept (hkg.mono fun j hj _ e=>by rcases hj with h|h;exact h.elim;(have h1:=hobN _ h;have h2:=(hla j e).2;omega))).kept (hsB _ (fun h=>by rcases h with h|h;exact h;(have h1:=hobN _ h;omega)) (fun h=>by rcases h with h|h;exact h;(have h1:=hobN _ h;omega)))
theorem zna (T:Nat->Prop) (w:World) (g:Nat) (now last:List Bool) (h:MapAt T w g now last) (n:Nat) (hn:n<=(qo now last).length) :
  Calls Tryz.prog 90 #[.pointer (some ⟨g,0,none⟩),.int .i64 n] w fun e w'=>∃ v rs,e = .returned (.tuple #[v,.int .i64 0])/\Canon rs/\flat rs=(qo now last).take n/\
   OwnS rRn 209 w' w.heap.size (fun _=>False) v (rs.map runI)/\MapAt T w' g (xp now ((qo now last).take n)) last/\Keep (fun k=>¬ T k) w w':=by
 have hfl:=zs6 now last;have H:=hid h;obtain⟨vn,vl,h1,h2,h3,h4,h5,h6,h7,h8⟩:=h;have hg:=(blt h1)
 have H1:=hid h1;have H2:=hid h2;have H3:=hid h3;have H4:=hid h4;clear h1 h2 h3 h4;refine(callsIn_wide (n:=6)).1 (callsIn_of_wp_marks Tryz.func90 rfl trivial ?_ rfl);simp only[Tryz.ntmps90,List.size_toArray,List.length_cons,List.length_nil,Nat.reduceAdd,Nat.reduceSub,Array.replicate_succ,Array.replicate_zero,List.push_toArray,List.append_toArray,List.nil_append,List.cons_append];refine wpIn_wide.2 ?_;go_upto_region 3 with fail;obtain⟨WA,hWA⟩ : ∃ WA,WA=((w.alloc (.cells #[.pointer (some ⟨g,0,none⟩)] 146)).alloc (.cells #[.int .i64 (n:Int)] 3)):=⟨_,rfl⟩
 have hxA:Ext w WA:=by rw[hWA];exact((Ext.refl w).alloc _).alloc _
 have hsA:WA.heap.size=w.heap.size+2:=by rw[hWA];simp
 have r2:WA.heap[w.heap.size]? = some (.cells #[.pointer (some ⟨g,0,none⟩)] 146 (0,0)):=by
  rw[hWA];exact(Below.block ((Ext.refl (w.alloc (.cells #[.pointer (some ⟨g,0,none⟩)] 146))).alloc _) w.heap.size (by simp)).trans (heap_alloc_new _ _)
 have r3:WA.heap[w.heap.size+1]? = some (.cells #[.int .i64 (n:Int)] 3 (0,0)):=by
  rw[hWA];have:=heap_alloc_new (w.alloc (.cells #[.pointer (some ⟨g,0,none⟩)] 146)) (.cells #[.int .i64 (n:Int)] 3);rwa [x9]at this
 rw[<-hWA];clear hWA;obtain⟨B3,hB3⟩ : ∃ B3,B3=w.heap.size+1:=⟨_,rfl⟩
 rw[<-hB3]at r3 ⊢;obtain⟨B2,hB2⟩ : ∃ B2,B2=w.heap.size:=⟨_,rfl⟩
 rw[<-hB2]at r2 ⊢;have HB2:=hid hB2;have HB3:=hid hB3;have HSA:=hid hsA;have HXA:=hid hxA;have R2:=hid r2;have R3:=hid r3;have c2:WA.cell? ⟨B2,0,none⟩=some (.pointer (some ⟨g,0,none⟩)):=(cr 0 r2)
 have c3:WA.cell? ⟨B3,0,none⟩=some (.int .i64 (n:Int)):=(cr 0 r3)
 clear hB2 hB3 hsA hxA r2 r3;have hxd:Ext WA WA.drew:=by(exact Ext.xt)
 refine zr (fun w'=>w'.cell? ⟨B2,0,none⟩=some (.pointer (some ⟨g,0,none⟩))/\w'.cell? ⟨B3,0,none⟩=some (.int .i64 (n:Int))) [3,4] (by kernel_rfl) ⟨hxd.cellS c2,hxd.cellS c3⟩ (fun hS=>?_);have hx0:=hxd;clear hxd c2 c3;generalize WA.drew=q0 at hS hx0 ⊢;(refine za 0 rfl ?_;(try simp only[Act.put,tq0,tq1,tq2,tq3,tq4,tq5]));(refine za 1 rfl ?_;(try simp only[Act.put,tq0,tq1,tq2,tq3,tq4,tq5]));have hle : ¬ ((qo now last).length:Int)<(n:Int):=by omega
 refine ze (rs:=[2]) (by kernel_rfl) (by decide) (AllT.consS rfl (fun K hK=>?_) AllT.nil);go_simp;go_at_call 139;refine(zt3 T q0 g now last (H.out.ext (HXA.out.trans hx0))).mono ?_;rintro e q1 ⟨rfl,hx1⟩;(refine hK.out _ _ (⟨hx1.cellS hS.1,hx1.cellS hS.2⟩) (fun hS=>?_);clear hK K);refine ze (rs:=[3]) (by kernel_rfl) (by decide) (AllT.consF rfl rfl (fun K hK=>?_) AllT.nil);go_simp;(refine hK.out _ _ ?_;clear hK K);refine ze (rs:=[4]) (by kernel_rfl) (by decide) (AllT.consF rfl rfl (fun K hK=>?_) AllT.nil);go_simp;(refine hK.out _ _ ?_;clear hK K);refine zn (by kernel_rfl) (NoPanic.normal ?_) _;have hxB:=hx0.trans hx1;have HXB:=hid hxB;have c2:q1.cell? ⟨B2,0,none⟩=some (.pointer (some ⟨g,0,none⟩)):=(cr 0 ((Below.block hxB _ (blt R2.out)).trans R2.out))
 have hb2:B2<q1.heap.size:=Nat.lt_of_lt_of_le (blt R2.out) hxB.size;clear hS hx0 hx1 hxB;go_wp2_with fail;refine(zhg _ _).mono ?_;rintro e w' ⟨rfl,rfl⟩;go_wp2_with fail;obtain⟨W,hW⟩ : ∃ W,W=((q1.alloc (.cells #[.slice none 0 0] 176)).alloc (.cells #[.pointer (some ⟨g,0,none⟩)] 146)):=⟨_,rfl⟩
 have hx:Ext q1 W:=by rw[hW];exact((Ext.refl q1).alloc _).alloc _
 have hsz:W.heap.size=q1.heap.size+2:=by rw[hW];simp
 have hB:W.heap[q1.heap.size]? = some (.cells #[.slice none 0 0] 176 (0,0)):=by
  rw[hW];exact(Below.block ((Ext.refl (q1.alloc (.cells #[.slice none 0 0] 176))).alloc _) q1.heap.size (by simp)).trans (heap_alloc_new _ _)
 have hM:W.heap[q1.heap.size+1]? = some (.cells #[.pointer (some ⟨g,0,none⟩)] 146 (0,0)):=by
  rw[hW];have:=heap_alloc_new (q1.alloc (.cells #[.slice none 0 0] 176)) (.cells #[.pointer (some ⟨g,0,none⟩)] 146);rwa [x9]at this
 rw[<-hW];clear hW;have hq1:=HXB.out.size;have hxw:Ext w W:=HXA.out.trans (HXB.out.trans hx);have hgW:=(Below.block hxw g hg).trans H1.out;obtain⟨Ba,hBa⟩ : ∃ Ba,Ba=q1.heap.size+1:=⟨_,rfl⟩
 rw[<-hBa]at hM ⊢;obtain⟨Bl,hBl⟩ : ∃ Bl,Bl=q1.heap.size:=⟨_,rfl⟩
 rw[<-hBl]at hB ⊢;have hseq:=zlk 5 W g Ba vn vl now last ((cr 0 hM)) ((cr 0 hgW)) ((cr 1 hgW)) (H2.out.rdT.ext hxw) (H3.out.rdT.ext hxw) H4.out h5;have R3W:=hid ((Below.block (HXB.out.trans hx) B3 (blt R3.out)).trans R3.out);have R2W:=hid ((Below.block (HXB.out.trans hx) B2 (blt R2.out)).trans R2.out);have HX:=hid hxw;have HB:=hid hB;have HBL:=hid hBl;have HBA:=hid hBa;have HSZ:=hid hsz;have HQ1:=hid hq1;have HGW:=hid hgW;clear hx hB hM hBl hBa hsz hq1 hxw hgW c2 hb2;have hvl : ∀ j,vl.ownBlock=some j->j<W.heap.size:=fun j hj=>Nat.lt_of_lt_of_le (H3.out.lt j hj).2 HX.out.size;have HVL:=hid hvl;have hvn : ∀ j,vn.ownBlock=some j->j<w.heap.size:=fun j hj=>(H2.out.lt j hj).2;have HVN:=hid hvn;clear hvl hvn;have h0:TkI T w W.heap.size g B2 B3 Bl vn vl now last (fun k=>k=B3\/k=Bl\/vn.ownBlock=some k) ((flat []).take n) (n-(flat []).length) W:=
  ⟨.inl rfl,.inr (.inl rfl),fun j hj=>.inr (.inr hj),by simpa[zch] using R3W.out,R2W.out,HGW.out,by simpa[zch,xp] using H2.out.ext HX.out,H3.out.ext HX.out,⟨_,[],HB.out,⟨by simp,List.Pairwise.nil⟩,by simp[zch],OwnS.nil _ _ _ _ _,fun j hj=>by simp[Value.ownBlock]at hj⟩,HX.out.keep _⟩
 have H0:=hid h0;clear h0;refine(wpIn_wide (n:=6)).1 ?_;refine zb3 (w0:=W) rfl (by omega) (gf:=165) (lb:=#[.pointer (some ⟨Ba,0,none⟩)]) rfl trivial (enters_of Tryz.func165 (by kernel_rfl) rfl) hseq (Ext.refl _) (fun _=>rfl)
  (fun pre C V=>TkI T w W.heap.size g B2 B3 Bl vn vl now last C ((flat pre).take n) (n-(flat pre).length) V) (fun c pre C V=>c = .exit 1/\TkI T w W.heap.size g B2 B3 Bl vn vl now last C ((qo now last).take n) 0 V) ?_ ?_ (fun k=>k=B3\/k=Bl\/vn.ownBlock=some k) ?_ H0.out
  (fun x V a₁ V₁=>∃ Bx,V.heap.size<=Bx/\V₁.heap[Bx]? = some (.cells #[.int .i64 (x.1:Int),.int .i64 (x.2:Int)] 209 (0,0))/\a₁={ tmps:=#[.pointer (some ⟨g,0,none⟩),.int .i64 (n:Int),.pointer (some ⟨B2,0,none⟩),.pointer (some ⟨B3,0,none⟩),.slice none 0 0,.int .i64 0,.pointer (some ⟨Bl,0,none⟩),.pointer (some ⟨Bx,0,none⟩),undef,.bool (decide ((n:Int)<0)),.pointer (some ⟨g,0,none⟩),.bool false,.bool false,.int .i64 (n:Int),.bool (decide ((n:Int)<0)),.bool (decide ((n:Int)<0)),.bool false,.int .i64 (n:Int),.pointer (some ⟨g,0,none⟩),.int .i64 ((qo now last).length:Nat),.bool false,.pointer (some ⟨g,0,none⟩),.func (.func 165) #[] #[.pointer (some ⟨Ba,0,none⟩)],.agg #[.int .i64 (x.1:Int),.int .i64 (x.2:Int)],undef,undef,undef,undef,undef,undef,undef,undef,undef,undef,undef,undef,undef,undef,undef,undef,undef,undef,undef,undef,undef,undef,undef,undef,undef,undef,undef,undef,undef,undef,undef],defers:=[] }) ?_ ?_ ?_ ?_ ?_
 ·intro s C V V' q hk;exact q.stab hk HX.out.size (by have h1:=HB2.out;have h2:=HSZ.out;have h3:=HQ1.out;have h4:=HSA.out;omega) (by have:=HX.out.size;omega) HVL.out
 ·intro c s C V V' q hk;exact⟨q.1,q.2.stab hk HX.out.size (by have h1:=HB2.out;have h2:=HSZ.out;have h3:=HQ1.out;have h4:=HSA.out;omega) (by have:=HX.out.size;omega) HVL.out⟩
 ·rintro k (rfl|rfl|hk)
  ·have h1:=HB3.out;have h2:=HSZ.out;have h3:=HQ1.out;have h4:=HSA.out;omega
  ·have h1:=HBL.out;have h2:=HSZ.out;omega
  ·have h1:=HVN.out k hk;have h2:=HX.out.size;omega
 ·rintro x V a₁ V₁ V₂ ⟨Bx,q1,q2,q3⟩ hk;exact⟨Bx,q1,(hk.block _ q1 (blt q2)).trans q2,q3⟩
 ·intro l x V K hK;simp only[encR];gi_wp2
  exact hK _ _ ⟨_,Nat.le_refl _,heap_alloc_new _ _,rfl⟩ ((Ext.refl V).alloc _)
 ·rintro l pre x C V a₁ V₂ hI ⟨Bx,hBx,hrx,rfl⟩ p1 p2 p3 hok;have hI':=hI;obtain⟨q1,q2,q3,q4,q5,q6,q7,q8,⟨lv,rs,z1,z2,z3,z4,z5⟩,q9⟩:=hI';have hpre:flat pre <+: qo now last:=by
   have:=hok.2.1;rw[xw]at this;exact(List.prefix_append _ _).trans this
  by_cases hA:n<=(flat pre).length
  ·have hz:n-(flat pre).length=0:=by omega
   have htk:(flat pre).take n=(qo now last).take n:=by
    obtain⟨t,ht⟩:=hpre;rw[<-ht,List.take_append_of_le_length hA]
   rw[hz]at q4 hI;rw[htk]at hI;have HI:=hid hI;have c3:V₂.cell? ⟨B3,0,none⟩=some (.int .i64 (0:Int)):=(cr 0 q4)
   clear hI q4 q5 q6 q7 q8 q9 z1 z2 z3 z4 z5 hrx hok hpre;gi_wp2
   exact⟨C,⟨Keep.refl _ _,fun k hk=>⟨.inl (.inl hk),by have:=p3 k hk;omega⟩⟩,rfl,HI.out⟩
  ·obtain⟨x0,xk⟩:=x;dsimp only at hrx hok;have hk1:1<=xk:=hok.1.1 (x0,xk) (by simp);have hin:x0+xk<=now.length:=hok.2.2 (x0,xk) (by simp);have hflp:(flat (pre++[(x0,xk)])).length<=(qo now last).length:=hok.2.1.length_le;rw[xw,jl,List.length_append,List.length_range']at hflp;dsimp only at hflp;have htp:(flat pre).take n=flat pre:=List.take_of_length_le (by omega);rw[htp]at q7 z3;obtain⟨gN,nc,cuN,en,-,hgN,hrN⟩:=q7.head1 (by rw[vg];omega);rw[vg]at en;subst en;have hk0 : ¬ ((n-(flat pre).length:Nat):Int)=0:=by omega
   obtain⟨k0,hk0e⟩ : ∃ k0,k0=n-(flat pre).length:=⟨_,rfl⟩
   rw[<-hk0e]at q4 hk0;have hk0p:0<k0:=by omega
   have c3:V₂.cell? ⟨B3,0,none⟩=some (.int .i64 (k0:Int)):=(cr 0 q4)
   have x1:V₂.cell? ⟨Bx,1,none⟩=some (.int .i64 (xk:Int)):=(cr 1 hrx)
   have fx:=yp hrx 1;have hk512:k0<=512:=by omega
   have hkb:((k0:Int) == 0)=false:=by rw[beq_eq_false_iff_ne];exact hk0
   have HPRE:=hid hpre;have HI:=hid hI;have HOK:=hid hok;have HQ4:=hid q4;have HQ5:=hid q5;have HQ6:=hid q6;have HQ7:=hid q7;have HQ8:=hid q8;have HQ9:=hid q9;have HZ1:=hid z1;have HZ3:=hid z3;have HZ4:=hid z4;have HRX:=hid hrx;have HRN:=hid hrN;have HK0:=hid hk0e;clear hpre hI hok q4 q5 q6 q7 q8 q9 z1 z3 z4 hrx htp hrN hflp hk0e;have hcase : ∃ m:Nat,1<=m/\m<=xk/\m<=k0/\((xk<=k0/\m=xk)\/(k0<xk/\m=k0)):=by
    rcases Nat.lt_or_ge k0 xk with h|h
    ·exact⟨k0,hk0p,by omega,by omega,.inr ⟨h,rfl⟩⟩
    ·exact⟨xk,hk1,by omega,by omega,.inl ⟨h,rfl⟩⟩
   obtain⟨m,hm1,hm2,hm3,hm⟩:=hcase;rcases hm with⟨ha,rfl⟩|⟨ha,rfl⟩;all_goals
    gi_wp2
    have hgNw:=HVN.out gN rfl;have hb2:=HB2.out;have hb3:=HB3.out;have hbl:=HBL.out;have hszW:=HSZ.out;have hxs:=HX.out.size;have hsa:=HSA.out;have hq1s:=HQ1.out;have hq3:=p3 gN (q3 gN rfl);have R4:=(kv HRX.out (o:=1) (.int .i64 (m:Int))).trans (show _=some (.cells #[.int .i64 (x0:Int),.int .i64 (m:Int)] 209 (0,0)) by simp);have hk4:Keep (fun j=>j≠Bx) V₂ (V₂.setCell ⟨Bx,1,none⟩ (.int .i64 (m:Int))):=(Keep.refl _ _).setCell (p:=⟨Bx,1,none⟩) (fun h=>h rfl) _;(try rw[show min (m:Int) (k0:Int)=(m:Int) by omega]);(try rw[show min (xk:Int) (m:Int)=(m:Int) by omega]);generalize (V₂.setCell ⟨Bx,1,none⟩ (.int .i64 (m:Int)))=V3 at R4 hk4 ⊢;have n1:B2≠Bx:=by omega
    have n2:g≠Bx:=by omega
    have n3:gN≠Bx:=by omega
    have n4:B2≠gN:=by omega
    have n5:g≠gN:=fun e=>by
     have:=HRN.out;rw[<-e,HQ6.out]at this;simp at this
    have HR4:=hid R4;have HK4:=hid hk4;have NN:=hid (And.intro n1 (And.intro n2 (And.intro n3 (And.intro n4 n5))));clear hgNw hb2 hb3 hbl hszW hxs hsa hq1s hq3 R4 hk4 n1 n2 n3 n4 n5 c3 x1 fx;gi_loopw [33] (fun u33 wr=>∃ i:Nat,u33 = .int .i64 i/\i<=m/\OwnS rBo 4 wr 0 (fun _=>False) (.slice (some ⟨gN,0,none⟩) now.length nc) (xp now (flat pre++List.range' x0 i))/\Keep (fun j=>j≠gN) V3 wr) (fun u33 _=>m-(intOf u33).toNat)
    case atStart=>exact⟨0,rfl,by omega,by simpa using HQ7.out.kept (HK4.out.mono fun j hj _=>by rcases hj with h|h;exact h.elim;(simp only[Value.ownBlock,Option.map_some,Option.some.injEq]at h;subst h;exact NN.out.2.2.1)),Keep.refl _ _⟩
    case round=>
     obtain⟨V4,rfl⟩ : ∃ V4:World,V4=wr:=⟨_,rfl⟩
     obtain⟨i,rfl,hi,ho,hkk⟩:=hrel;have r2:=(hkk.block B2 NN.out.2.2.2.1 (Nat.lt_of_lt_of_le (blt HQ5.out) HK4.out.size)).trans ((HK4.out.block B2 NN.out.1 (blt HQ5.out)).trans HQ5.out);have rg:=(hkk.block g NN.out.2.2.2.2 (Nat.lt_of_lt_of_le (blt HQ6.out) HK4.out.size)).trans ((HK4.out.block g NN.out.2.1 (blt HQ6.out)).trans HQ6.out);have rx:=(hkk.block Bx (fun e=>NN.out.2.2.1 e.symm) (blt HR4.out)).trans HR4.out;have c2:V4.cell? ⟨B2,0,none⟩=some (.pointer (some ⟨g,0,none⟩)):=(cr 0 r2)
     have cg:V4.cell? ⟨g,0,none⟩=some (.slice (some ⟨gN,0,none⟩) now.length nc):=(cr 0 rg)
     have cx0:V4.cell? ⟨Bx,0,none⟩=some (.int .i64 (x0:Int)):=(cr 0 rx)
     have HO:=hid ho;have HKK:=hid hkk;by_cases him:i<m
     ·have hidx:x0+i<now.length:=by omega
      obtain⟨g5,n5,cu5,e5,-,hg5,hr5⟩:=ho.head1 (by rw[vg];omega);simp only[Value.slice.injEq,Option.some.injEq,Addr.mk.injEq]at e5;obtain⟨⟨rfl,-⟩,-,-⟩:=e5;obtain⟨g6,o6,n6,e6,-,-,z6⟩:=ho.rdT.atB (x0+i) (by rw[vg];omega);simp only[Value.slice.injEq,Option.some.injEq,Addr.mk.injEq]at e6;obtain⟨⟨rfl,rfl,-⟩,-,-⟩:=e6;rw[Nat.zero_add]at z6;have f6:=yp hr5 (x0+i);have hwr:IntKind.i64.wrap ((x0:Int)+(i:Int))=((x0+i:Nat):Int):=by rw[IntKind.wrap_i64];omega
      have hi1:(0:Int)<=(x0:Int)+(i:Int):=by omega
      have hi2:(x0:Int)+(i:Int)<(now.length:Int):=by omega
      have hi3:((x0:Int)+(i:Int)).toNat=x0+i:=by omega
      clear ho hkk r2 rg rx hr5;gi_wp2
      have hxd:Ext V4 V4.drew:=by(exact Ext.xt)
      refine zbh (fun w'=>w'.cell? ⟨B2,0,none⟩=some (.pointer (some ⟨g,0,none⟩))/\w'.cell? ⟨g,0,none⟩=some (.slice (some ⟨gN,0,none⟩) now.length nc)/\w'.cell? ⟨Bx,0,none⟩=some (.int .i64 (x0:Int))) [9] (by kernel_rfl) (by rintro ⟨_,_,h⟩;exact h) (by kernel_rfl) (xj hxd ⟨c2,cg,cx0⟩) (fun hS=>?_);(refine za 0 rfl ?_;(try simp only[Act.put,tq0,tq1,tq2,tq3,tq4,tq5]));(refine za 1 rfl ?_;(try simp only[Act.put,tq0,tq1,tq2,tq3,tq4,tq5]));(refine za 2 rfl ?_;(try simp only[Act.put,tq0,tq1,tq2,tq3,tq4,tq5]));(refine za 3 rfl ?_;(try simp only[Act.put,tq0,tq1,tq2,tq3,tq4,tq5]));(refine za 4 rfl ?_;(try simp only[Act.put,tq0,tq1,tq2,tq3,tq4,tq5]));(refine za 5 rfl ?_;(try simp only[Act.put,tq0,tq1,tq2,tq3,tq4,tq5]));(refine za 6 rfl ?_;(try simp only[Act.put,tq0,tq1,tq2,tq3,tq4,tq5]));(refine za 7 rfl ?_;(try simp only[Act.put,tq0,tq1,tq2,tq3,tq4,tq5]));(refine za 8 rfl ?_;(try simp only[Act.put,tq0,tq1,tq2,tq3,tq4,tq5]));refine ze (rs:=[9]) (by kernel_rfl) (by decide) (AllT.consF rfl rfl (fun K hK=>?_) AllT.nil);go_simp;(refine hK.out _ _ ?_;clear hK K);refine zn (by kernel_rfl) (NoPanic.normal ?_) _;gi_wp2
      go_roundw;case rel=>
       refine⟨i+1,by go_num,by omega,?_,?_⟩
       ·rw[List.range'_concat,<-List.append_assoc,Nat.one_mul,zlu];exact(HO.out.set1 rfl (x0+i) (by rw[vg];omega) (.bool true) true rfl).ext (by(exact Ext.xt))
       ·exact(HKK.out.setCell (p:=⟨gN,x0+i,none⟩) (fun h=>h rfl) _).drew
      case measure=>simp[intOf];omega
     ·obtain rfl:i=m:=by omega
      have hbx:=hBx;have hbl:=HBL.out;have hb3:=HB3.out;have hszW:=HSZ.out;have hxs:=HX.out.size;have hq1s:=HQ1.out;have hsa:=HSA.out;have hgNw:=HVN.out gN rfl;have rl:=(hkk.block Bl (by omega) (Nat.lt_of_lt_of_le (blt HZ1.out) HK4.out.size)).trans ((HK4.out.block Bl (by omega) (blt HZ1.out)).trans HZ1.out);have r3:=(hkk.block B3 (by omega) (Nat.lt_of_lt_of_le (blt HQ4.out) HK4.out.size)).trans ((HK4.out.block B3 (by omega) (blt HQ4.out)).trans HQ4.out);have hz4:=(HZ4.out.kept (HK4.out.mono fun j hj _=>by rcases hj with h|h;exact h.elim;(have h2:=p3 j (z5 j h);omega))).kept (hkk.mono fun j hj _=>by rcases hj with h|h;exact h.elim;(have h2:=(HZ4.out.lt j h).1;omega));obtain⟨la,lc,rfl⟩:=hz4.slice;rw[List.length_map]at hz4 z5 rl;have cl:V4.cell? ⟨Bl,0,none⟩=some (.slice la rs.length lc):=(cr 0 rl)
      have c3:V4.cell? ⟨B3,0,none⟩=some _:=(cr 0 r3)
      have cx1:V4.cell? ⟨Bx,1,none⟩=some (.int .i64 (i:Int)):=(cr 1 rx)
      have HZ5:=hid hz4;have fl:=yp rl 0;have f3:=yp r3 0;have HRL:=hid rl;have HR3:=hid r3;clear hz4 rl r3 r2 rg rx ho hkk c2 cg hbl hb3 hszW hxs hq1s hsa hgNw;gi_wp2
      have hxd:Ext V4 V4.drew:=by(exact Ext.xt)
      refine zbh (fun w'=>w'.cell? ⟨Bx,0,none⟩=some (.int .i64 (x0:Int))/\w'.cell? ⟨Bx,1,none⟩=some (.int .i64 (i:Int))/\w'.cell? ⟨B3,0,none⟩=some _) [9] (by kernel_rfl) (by rintro ⟨_,_,h⟩;exact h) (by kernel_rfl) (xj hxd ⟨cx0,cx1,c3⟩) (fun hS=>?_);(refine za 1 rfl ?_;(try simp only[Act.put,tq0,tq1,tq2,tq3,tq4,tq5]));(refine za 4 rfl ?_;(try simp only[Act.put,tq0,tq1,tq2,tq3,tq4,tq5]));(refine za 5 rfl ?_;(try simp only[Act.put,tq0,tq1,tq2,tq3,tq4,tq5]));(refine za 6 rfl ?_;(try simp only[Act.put,tq0,tq1,tq2,tq3,tq4,tq5]));(refine za 7 rfl ?_;(try simp only[Act.put,tq0,tq1,tq2,tq3,tq4,tq5]));refine ze (rs:=[0,2]) (by kernel_rfl) (by decide) (AllT.consS rfl (fun K hK=>?_) (AllT.consS rfl (fun K hK=>?_) AllT.nil))
      ·go_simp;(refine hK.out _ _ (hS) (fun hS=>?_);clear hK K);refine ze (rs:=[2]) (by kernel_rfl) (by decide) (AllT.consS rfl (fun K hK=>?_) AllT.nil);go_simp;(refine hK.out _ _ (xj (show Ext V4 _ by(exact Ext.xt)) ⟨cx0,cx1,c3⟩) (fun hS=>?_);clear hK K);refine ze (rs:=[3]) (by kernel_rfl) (by decide) (AllT.consS rfl (fun K hK=>?_) AllT.nil);have hWn:Ext V4 (V4.alloc (.cells #[.int .i64 (x0:Int),.int .i64 (i:Int)] 209)).drew:=((Ext.refl V4).alloc _).drew;have hrs:(rs.map runI).length<=1000000:=by
        have h1:=zez rs z2.1;rw[HZ3.out]at h1;rw[List.length_map];omega
       refine zfu rfl _ _ rfl W.heap.size _ (rs.map runI) rfl (HZ5.out.ext hWn) (runI (x0,i)) (by simp only[runI];omega) (by simp only[runI];omega) V4.heap.size rfl (heap_alloc_new V4 _) hrs ?_ ?_
       ·have h1:=HX.out.size;have h2:=hWn.size;have h3:=HKK.out.size;have h4:=HK4.out.size;omega
       ·intro v' w' k1 k2 k3;obtain⟨a',c',rfl⟩:=k1.slice;have hown : ∀ j,(Value.slice la rs.length lc).ownBlock=some j->j≠Bx/\j≠B3/\j≠Bl/\j≠g/\j≠gN:=fun j hj=>by
         have h1:=p3 j (z5 j hj);have h2:=(HZ5.out.lt j hj).1;have e1:=HBL.out;have e2:=HB3.out;have e3:=HSZ.out;have e4:=HQ1.out;have e5:=HSA.out;have e6:=HVN.out gN rfl;have e7:=HX.out.size;refine⟨?_,?_,?_,?_,?_⟩ <;> omega
        have hkw:Keep (fun j=>j=Bx\/j=B3\/j=Bl\/j=g\/j=gN) V4 w':=(hWn.keep _).trans ((zl k2).mono fun j hj _ e=>by
         have h1:=hown j e.symm;rcases hj with h|h|h|h|h
         ·exact h1.1 h
         ·exact h1.2.1 h
         ·exact h1.2.2.1 h
         ·exact h1.2.2.2.1 h
         ·exact h1.2.2.2.2 h)
        have y0:=hkw.cell cx0 (.inl rfl);have y1:=hkw.cell cx1 (.inl rfl);have y3:=hkw.cell c3 (.inr (.inl rfl));have yl:=(hkw.block Bl (.inr (.inr (.inl rfl))) (blt HRL.out)).trans HRL.out;have cyl:w'.cell? ⟨Bl,0,none⟩=some (.slice la rs.length lc):=(cr 0 yl)
        have fyl:=yp yl 0;have r3':=(hkw.block B3 (.inr (.inl rfl)) (blt HR3.out)).trans HR3.out;have fy3:=yp r3' 0;(refine hK.out _ _ (⟨y0,y1,y3⟩) (fun hS=>?_);clear hK K);refine ze (rs:=[8]) (by kernel_rfl) (by decide) (AllT.consS rfl (fun K hK=>?_) AllT.nil);have m1 : ¬ B3=Bl:=by have e1:=HBL.out;have e2:=HB3.out;have e4:=HQ1.out;have e5:=HSA.out;omega
        have m2 : ¬ Bl=B3:=fun e=>m1 e.symm;have m3 : ¬ Bx=Bl:=by have e1:=HBL.out;have e3:=HSZ.out;omega
        have HYL:=hid yl;have HR3':=hid r3';have HKW:=hid hkw;clear yl r3' hkw;go_simp;(refine hK.out _ _ (⟨((Keep.refl (fun j=>j≠Bl) w').setCell (p:=⟨Bl,0,none⟩) (fun h=>h rfl) _).cell y0 m3,((Keep.refl (fun j=>j≠Bl) w').setCell (p:=⟨Bl,0,none⟩) (fun h=>h rfl) _).cell y1 m3,((Keep.refl (fun j=>j≠Bl) w').setCell (p:=⟨Bl,0,none⟩) (fun h=>h rfl) _).cell y3 m1⟩) (fun hS=>?_);clear hK K);refine ze (rs:=[9]) (by kernel_rfl) (by decide) (AllT.consF rfl rfl (fun K hK=>?_) AllT.nil);go_simp;(refine hK.out _ _ ?_;clear hK K);refine zn (by kernel_rfl) (NoPanic.normal ?_) _;gi_wp2
        have e1:=HBL.out;have e2:=HB3.out;have e3:=HSZ.out;have e4:=HQ1.out;have e5:=HSA.out;have e6:=HVN.out gN rfl;have e7:=HX.out.size;have e8:=HB2.out;have e9:=HKK.out.size;refine zjt HI.out HOK.out HK0.out hk0p (by omega) hm1 p3 p2 hBx (by omega) z2 HZ3.out HK4.out HKK.out ((hWn.keep _).trans ((zl k2).mono fun j hj _ e=>hj e.symm)) (fun j hj=>⟨z5 j hj,(HZ5.out.lt j hj).1⟩) HO.out (by simpa using k1) (fun k hk=>?_) HR3'.out HYL.out ⟨by omega,by omega,by omega,by omega,by omega⟩ ⟨by omega,by omega,NN.out.2.2.2.1,by omega,by omega,NN.out.2.2.2.2,by omega,by omega,by omega⟩ (fun j hj=>?_) (fun j h1 h2=>⟨by omega,by omega,by omega,fun e=>h1 ((h7 j (by rw[e];rfl)).2.2)⟩) (q3 gN rfl) q1 q2 ?_
        ·rcases k3 k (by simpa using hk) with h|h
         ·exact .inl h
         ·have h1:=hWn.size;have h2:=HK4.out.size;exact .inr (by omega)
        ·have h1:=(H3.out.lt j hj).2;exact⟨by omega,by omega,by omega,fun e=>(h7 j (by rw[e];rfl)).2.1 hj⟩
        ·rw[IntKind.wrap_i64];omega
      ·go_simp;(refine hK.out _ _ (xj (show Ext V4 _ by(exact Ext.xt)) ⟨cx0,cx1,c3⟩) (fun hS=>?_);clear hK K);refine ze (rs:=[0]) (by kernel_rfl) (by decide) (AllT.consS rfl (fun K hK=>?_) AllT.nil);have cl2:=((Ext.refl V4).alloc (.cells #[.int .i64 (x0:Int),.int .i64 (i:Int)] 209)).cellS cl;go_simp;(refine hK.out _ _ (xj (show Ext V4 _ by(exact Ext.xt)) ⟨cx0,cx1,c3⟩) (fun hS=>?_);clear hK K);refine ze (rs:=[3]) (by kernel_rfl) (by decide) (AllT.consS rfl (fun K hK=>?_) AllT.nil);have hWn:Ext V4 (V4.alloc (.cells #[.int .i64 (x0:Int),.int .i64 (i:Int)] 209)).drew:=((Ext.refl V4).alloc _).drew;have hrs:(rs.map runI).length<=1000000:=by
        have h1:=zez rs z2.1;rw[HZ3.out]at h1;rw[List.length_map];omega
       refine zfu rfl _ _ rfl W.heap.size _ (rs.map runI) rfl (HZ5.out.ext hWn) (runI (x0,i)) (by simp only[runI];omega) (by simp only[runI];omega) V4.heap.size rfl (heap_alloc_new V4 _) hrs ?_ ?_
       ·have h1:=HX.out.size;have h2:=hWn.size;have h3:=HKK.out.size;have h4:=HK4.out.size;omega
       ·intro v' w' k1 k2 k3;obtain⟨a',c',rfl⟩:=k1.slice;have hown : ∀ j,(Value.slice la rs.length lc).ownBlock=some j->j≠Bx/\j≠B3/\j≠Bl/\j≠g/\j≠gN:=fun j hj=>by
         have h1:=p3 j (z5 j hj);have h2:=(HZ5.out.lt j hj).1;have e1:=HBL.out;have e2:=HB3.out;have e3:=HSZ.out;have e4:=HQ1.out;have e5:=HSA.out;have e6:=HVN.out gN rfl;have e7:=HX.out.size;refine⟨?_,?_,?_,?_,?_⟩ <;> omega
        have hkw:Keep (fun j=>j=Bx\/j=B3\/j=Bl\/j=g\/j=gN) V4 w':=(hWn.keep _).trans ((zl k2).mono fun j hj _ e=>by
         have h1:=hown j e.symm;rcases hj with h|h|h|h|h
         ·exact h1.1 h
         ·exact h1.2.1 h
         ·exact h1.2.2.1 h
         ·exact h1.2.2.2.1 h
         ·exact h1.2.2.2.2 h)
        have y0:=hkw.cell cx0 (.inl rfl);have y1:=hkw.cell cx1 (.inl rfl);have y3:=hkw.cell c3 (.inr (.inl rfl));have yl:=(hkw.block Bl (.inr (.inr (.inl rfl))) (blt HRL.out)).trans HRL.out;have cyl:w'.cell? ⟨Bl,0,none⟩=some (.slice la rs.length lc):=(cr 0 yl)
        have fyl:=yp yl 0;have r3':=(hkw.block B3 (.inr (.inl rfl)) (blt HR3.out)).trans HR3.out;have fy3:=yp r3' 0;(refine hK.out _ _ (⟨y0,y1,y3⟩) (fun hS=>?_);clear hK K);refine ze (rs:=[8]) (by kernel_rfl) (by decide) (AllT.consS rfl (fun K hK=>?_) AllT.nil);have m1 : ¬ B3=Bl:=by have e1:=HBL.out;have e2:=HB3.out;have e4:=HQ1.out;have e5:=HSA.out;omega
        have m2 : ¬ Bl=B3:=fun e=>m1 e.symm;have m3 : ¬ Bx=Bl:=by have e1:=HBL.out;have e3:=HSZ.out;omega
        have HYL:=hid yl;have HR3':=hid r3';have HKW:=hid hkw;clear yl r3' hkw;go_simp;(refine hK.out _ _ (⟨((Keep.refl (fun j=>j≠Bl) w').setCell (p:=⟨Bl,0,none⟩) (fun h=>h rfl) _).cell y0 m3,((Keep.refl (fun j=>j≠Bl) w').setCell (p:=⟨Bl,0,none⟩) (fun h=>h rfl) _).cell y1 m3,((Keep.refl (fun j=>j≠Bl) w').setCell (p:=⟨Bl,0,none⟩) (fun h=>h rfl) _).cell y3 m1⟩) (fun hS=>?_);clear hK K);refine ze (rs:=[9]) (by kernel_rfl) (by decide) (AllT.consF rfl rfl (fun K hK=>?_) AllT.nil);go_simp;(refine hK.out _ _ ?_;clear hK K);refine zn (by kernel_rfl) (NoPanic.normal ?_) _;gi_wp2
        have e1:=HBL.out;have e2:=HB3.out;have e3:=HSZ.out;have e4:=HQ1.out;have e5:=HSA.out;have e6:=HVN.out gN rfl;have e7:=HX.out.size;have e8:=HB2.out;have e9:=HKK.out.size;refine zjt HI.out HOK.out HK0.out hk0p (by omega) hm1 p3 p2 hBx (by omega) z2 HZ3.out HK4.out HKK.out ((hWn.keep _).trans ((zl k2).mono fun j hj _ e=>hj e.symm)) (fun j hj=>⟨z5 j hj,(HZ5.out.lt j hj).1⟩) HO.out (by simpa using k1) (fun k hk=>?_) HR3'.out HYL.out ⟨by omega,by omega,by omega,by omega,by omega⟩ ⟨by omega,by omega,NN.out.2.2.2.1,by omega,by omega,NN.out.2.2.2.2,by omega,by omega,by omega⟩ (fun j hj=>?_) (fun j h1 h2=>⟨by omega,by omega,by omega,fun e=>h1 ((h7 j (by rw[e];rfl)).2.2)⟩) (q3 gN rfl) q1 q2 ?_
        ·rcases k3 k (by simpa using hk) with h|h
         ·exact .inl h
         ·have h1:=hWn.size;have h2:=HK4.out.size;exact .inr (by omega)
        ·have h1:=(H3.out.lt j hj).2;exact⟨by omega,by omega,by omega,fun e=>(h7 j (by rw[e];rfl)).2.1 hj⟩
        ·rw[IntKind.wrap_i64];omega
 ·rintro D xs C V hD hCD hS hI hdef;rw[hS.2.1]at hI;obtain⟨lv,rs,z1,z2,z3,z4,z5⟩:=hI.2.2.2.2.2.2.2.2.1;have HI:=hid (hI.fin (o:=.deferred none) H.out (blt H1.out) H1.out hD hCD HX.out.size HVL.out z1 z2 z3 z4 z5);have cl:V.cell? ⟨Bl,0,none⟩=some lv:=(cr 0 z1)
  have HD:=hid hdef;clear hI hdef hS z1 z2 z3 z4 z5;go_wp2_with fail;refine⟨by simp,.inl ⟨_,_,rfl,run_takeDeferred HD.out,?_⟩⟩;exact⟨.tuple #[lv,.int .i64 0],by simp[results,Tryz.results90,go_sem],lv,rs,rfl,HI.out⟩
 ·rintro D c pre C V hD hCD hok ⟨rfl,hI⟩ hdef;obtain⟨lv,rs,z1,z2,z3,z4,z5⟩:=hI.2.2.2.2.2.2.2.2.1;have HI:=hid (hI.fin (o:=.deferred none) H.out (blt H1.out) H1.out hD hCD HX.out.size HVL.out z1 z2 z3 z4 z5);have cl:V.cell? ⟨Bl,0,none⟩=some lv:=(cr 0 z1)
  have HD:=hid hdef;clear hI hdef z1 z2 z3 z4 z5;refine wpIn_wide.2 ?_;go_wp2_with fail;refine⟨by simp,.inl ⟨_,_,rfl,run_takeDeferred HD.out,?_⟩⟩;exact⟨.tuple #[lv,.int .i64 0],by simp[results,Tryz.results90,go_sem],lv,rs,rfl,HI.out⟩
end
end Go.Proofs.YtnadlnmclameiaaGreatDoor
