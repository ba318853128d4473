/- part 22 -/
import Derived.Test.YtnadlnmclameiaaGreatDoorTS21
import Derived.RangeFuncNested
import Derived.RangeFuncBound
import Derived.RangeFuncCalls
import Derived.RangeFuncLeaves
import Derived.Shelf.Abstract
import Derived.Shelf.RegionOpen
import Derived.OwnWalkIn
import Derived.TacticsInMore
import Derived.LoopNIn
import Derived.LoopIn
set_option maxRecDepth 100000
set_option maxHeartbeats 8000000
set_option linter.all false
namespace Go.Proofs.YtnadlnmclameiaaGreatDoor
section
open Go.RowKit
abbrev Blk:=Nat->Prop
def Stab {β:Type} (B:Nat) (J:β->Blk->World->Prop):Prop:=∀ s C W W',J s C W->Keep (fun k=>k<B\/C k) W W'->J s C W'
def Goes (C:Blk) (W:World) (C':Blk) (W':World):Prop:=Keep (fun k=>¬ C k) W W'/\∀ k,C' k->(C k\/W.heap.size<=k)/\k<W'.heap.size
def SeqC {α:Type} (F:Fence) (n:Nat) (P:Program) (g:Nat) (lb:Array Value) (encs:α->Array Value) (S Ok:List α->Prop) (w:World):Prop:=
 ∀ (l:Nat) (J Jx:List α->Blk->World->Prop) (C:Blk) (W:World),Ext w W->Stab W.heap.size J->Stab W.heap.size Jx->
  (∀ pre x C W1,J pre C W1->Ok (pre++[x])->YieldAt F (n-1) P l (encs x) W1 fun e W'=>
   (e = .returned (.bool true)/\∃ C',J (pre++[x]) C' W'/\Goes C W1 C' W')\/(e = .returned (.bool false)/\∃ C',Jx (pre++[x]) C' W'/\Goes C W1 C' W'))->
  (∀ k,C k->k<W.heap.size)->J [] C W->
  CallsIn F n P g (#[.func (.yield l) #[] #[]]++lb) W fun e W'=>(∃ v,e = .returned v)/\((∃ xs C',S xs/\J xs C' W')\/(∃ pre C',Ok pre/\Jx pre C' W'))
def zuc {α:Type} (C:Blk) (I:List α->Blk->World->Prop) (Ix:Code->List α->Blk->World->Prop) (xs:List α) (W:World):Exit->Act->World->Prop
 | .normal,_,W'=>∃ C',Goes C W C' W'/\I xs C' W'
 | .ret,_,W'=>∃ C',Goes C W C' W'/\Ix .ret xs C' W'
 | .exit id,_,W'=>∃ C',Goes C W C' W'/\Ix (.exit id) xs C' W'
 | .goto t,_,W'=>∃ C',Goes C W C' W'/\Ix (.goto t) xs C' W'
 | .panic _,_,_=>False
 | .outgrown,_,_=>False
theorem qq {S:Nat->Prop} (W:World) (l:Nat) (o:Obj) (h : ¬ S l):Keep S W (W.putObj l o):=
 (zl (grownBy_putObj' W l o)).mono fun k hk _ e=>h (by cases e;exact hk)
section
variable {F:Fence}{n:Nat}{P:Program}
theorem zb3 {α:Type}{g:Operand}{ps:Array Tmp}{assign body:Code}{Q:Exit->Act->World->Prop}{a:Act}{w:World}
  (hro:F.round=none) (h1:1<=n) {gf:Nat}{lb:Array Value} (hg:a.eval g = .func (.func gf) #[] lb) (hFg:F.fn gf) (eg : ∀ args w,(callFunc gf args).run P w = .ok (.enter gf args) w)
  {encs:α->Array Value}{S Ok:List α->Prop}{w0:World} (hseq:SeqC F (n-1) P gf lb encs S Ok w0) (hb0:Ext w0 w) (hps : ∀ x,(encs x).size=ps.size)
  (I:List α->Blk->World->Prop) (Ix:Code->List α->Blk->World->Prop) (hI:Stab w.heap.size I) (hIx : ∀ c,Stab w.heap.size (Ix c)) (C0:Blk) (hC0 : ∀ k,C0 k->k<w.heap.size) (h0:I [] C0 w) (A:α->World->Act->World->Prop)
  (hA : ∀ x W a₁ W₁ W₂,A x W a₁ W₁->Keep (fun k=>W.heap.size<=k) W₁ W₂->A x W a₁ W₂)
  (hassign : ∀ (l:Nat) (x:α) (W:World) (K:Act->World->Prop),(∀ a₁ W₁,A x W a₁ W₁->Ext W W₁->K a₁ W₁)->
   assign.wpIn (F.inRound l) (n-1-1) P (Exit.then K (fun _ _ _=>False)) { tmps:=(ps.zip (encs x)).foldl (fun t (p,v)=>t.setIfInBounds p v) a.tmps,defers:=[] } W)
  (hbody : ∀ (l:Nat) (pre:List α) (x:α) (C:Blk) (W:World) (a₁:Act) (W₂:World),I pre C W₂->A x W a₁ W₂->w.heap.size<W.heap.size->W.heap.size<=W₂.heap.size->(∀ k,C k->k<W.heap.size)->Ok (pre++[x])->body.wpIn (F.inRound l) (n-1-1) P (zuc (fun k=>C k\/W.heap.size<=k) I Ix (pre++[x]) W₂) a₁ W₂)
  (hdone : ∀ (D:Nat) (xs:List α) (C:Blk) (W:World),w.heap.size<=D->¬ C D->S xs->I xs C W->W.heap[D]? = some (.deferred (some []))->Q .normal { a with defers:={ target:=.collected D,args:=#[] } :: a.defers } W)
  (hstop : ∀ (D:Nat) (c:Code) (pre:List α) (C:Blk) (W:World),w.heap.size<=D->¬ C D->Ok pre->Ix c pre C W->W.heap[D]? = some (.deferred (some []))->c.wpIn F n P Q { a with defers:={ target:=.collected D,args:=#[] } :: a.defers } W) :
  (Code.rangeFunc g ps assign body).wpIn F n P Q a w:=by
 refine wpIn_rangeFunc ?_;intro fn hfn;rw[hro];obtain⟨rec,hrec⟩ : ∃ rec:LoopState->Option Code->Loop,rec=fun st pe=>{ state:=st,pending:=pe,fn,tmps:=a.tmps,params:=ps,assign,body,defers:=w.heap.size }:=⟨_,rfl⟩
 obtain⟨W1,hW1⟩ : ∃ W1,(w.alloc (.deferred (some []))).alloc (.loop (rec .ready none))=W1:=⟨_,rfl⟩
 have hs1:W1.heap.size=w.heap.size+2:=by rw[<-hW1];simp
 have hL1:W1.heap[w.heap.size+1]? = some (.loop (rec .ready none)):=by
  rw[<-hW1];have:=World.alloc_heap_new (w.alloc (.deferred (some []))) (.loop (rec .ready none));rwa [World.size_alloc]at this
 have hK1:W1.heap[w.heap.size]? = some (.deferred (some [])):=by
  rw[<-hW1];exact(Below.heap_alloc _ _ _ (by simp)).trans (World.alloc_heap_new w _)
 have hx1:Ext w W1:=by rw[<-hW1];exact((Ext.refl w).alloc _).alloc _
 have hI1:I [] C0 W1:=hI _ _ _ _ h0 (hx1.keep _);refine⟨w.heap.size+1,[{ target:=.collected w.heap.size,args:=#[] }],W1,{ target:=.fn (.func gf) lb,args:=#[.func (.yield (w.heap.size+1)) #[] #[]] },W1,gf,
  #[.func (.yield (w.heap.size+1)) #[] #[]]++lb,W1,?_,?_,?_,?_,fun _=>h1,?_⟩
 ·rw[<-hW1,hrec];exact run_enterLoop_outer _ _ _ _ _
 ·simp only[resolve,hg];simp[go_sem]
 ·intro f' hf';simp[Target.leads]at hf';subst hf';exact hFg
 ·simp[invoke,go_sem,eg]
 ·have hstab : ∀ (X:List α->Blk->World->Prop),Stab w.heap.size X->∀ (r:World->Prop),(∀ W W',r W->W'.heap[w.heap.size+1]? = W.heap[w.heap.size+1]?->r W')->
    Stab W1.heap.size (fun pre C W=>∃ Cb:Blk,(∀ k,Cb k->C k)/\C (w.heap.size)/\C (w.heap.size+1)/\¬ Cb w.heap.size/\¬ Cb (w.heap.size+1)/\(∀ k,C k->Cb k\/k=w.heap.size\/k=w.heap.size+1)/\X pre Cb W/\(∀ k,Cb k->k<W.heap.size)/\w.heap.size+1<W.heap.size/\r W/\W.heap[w.heap.size]? = some (.deferred (some []))):=by
   rintro X hX r hr s C A B ⟨Cb,q1,q2,q3,q4,q5,q6,q7,q8,q9,q10,q11⟩ hk;refine⟨Cb,q1,q2,q3,q4,q5,q6,hX _ _ _ _ q7 (hk.mono fun k hk' _=>?_),fun k hk'=>Nat.lt_of_lt_of_le (q8 k hk') hk.size,Nat.lt_of_lt_of_le q9 hk.size,hr _ _ q10 (hk.block _ (.inr q3) q9),(hk.block _ (.inr q2) (by omega)).trans q11⟩;rcases hk' with h|h
   ·exact .inl (by omega)
   ·exact .inr (q1 k h)
  have goes : ∀ {C Cb C':Blk}{A B:World},(∀ k,Cb k->C k)->C w.heap.size->C (w.heap.size+1)->(∀ k,C k->Cb k\/k=w.heap.size\/k=w.heap.size+1)->w.heap.size+1<A.heap.size->Keep (fun k=>¬ Cb k/\k≠w.heap.size+1) A B->(∀ k,C' k->(Cb k\/A.heap.size<=k)/\k<B.heap.size)->
    Goes C A (fun k=>C' k\/k=w.heap.size\/k=w.heap.size+1) B:=by
   intro C Cb C' A B q1 q2 q3 q6 q9 hk hc;refine⟨hk.mono fun k hk' _=>⟨fun h=>hk' (q1 k h),fun e=>hk' (e▸q3)⟩,fun k hk'=>?_⟩;have hsz:=hk.size;rcases hk' with h|h|h
   ·obtain⟨h1,h2⟩:=hc k h;refine⟨?_,h2⟩;rcases h1 with h1|h1
    ·exact .inl (q1 k h1)
    ·exact .inr h1
   ·subst h;exact⟨.inl q2,by omega⟩
   ·subst h;exact⟨.inl q3,by omega⟩
  refine(hseq (w.heap.size+1)
   (fun pre C W=>∃ Cb:Blk,(∀ k,Cb k->C k)/\C (w.heap.size)/\C (w.heap.size+1)/\¬ Cb w.heap.size/\¬ Cb (w.heap.size+1)/\(∀ k,C k->Cb k\/k=w.heap.size\/k=w.heap.size+1)/\I pre Cb W/\(∀ k,Cb k->k<W.heap.size)/\w.heap.size+1<W.heap.size/\W.heap[w.heap.size+1]? = some (.loop (rec .ready none))/\W.heap[w.heap.size]? = some (.deferred (some [])))
   (fun pre C W=>∃ Cb:Blk,(∀ k,Cb k->C k)/\C (w.heap.size)/\C (w.heap.size+1)/\¬ Cb w.heap.size/\¬ Cb (w.heap.size+1)/\(∀ k,C k->Cb k\/k=w.heap.size\/k=w.heap.size+1)/\(∃ c,Ix c pre Cb W/\W.heap[w.heap.size+1]? = some (.loop (rec .done (some c))))/\(∀ k,Cb k->k<W.heap.size)/\w.heap.size+1<W.heap.size/\True/\W.heap[w.heap.size]? = some (.deferred (some [])))
   (fun k=>C0 k\/k=w.heap.size\/k=w.heap.size+1)
   W1 (hb0.trans hx1) (hstab I hI (fun W=>W.heap[w.heap.size+1]? = some (.loop (rec .ready none))) (fun A B h e=>e.trans h)) ?_ ?_ ?_ ?_).mono ?_
  ·rintro s C A B ⟨Cb,q1,q2,q3,q4,q5,q6,⟨c,q7,q7'⟩,q8,q9,q10,q11⟩ hk;refine⟨Cb,q1,q2,q3,q4,q5,q6,⟨c,hIx c _ _ _ _ q7 (hk.mono fun k hk' _=>?_),(hk.block _ (.inr q3) q9).trans q7'⟩,fun k hk'=>Nat.lt_of_lt_of_le (q8 k hk') hk.size,Nat.lt_of_lt_of_le q9 hk.size,trivial,(hk.block _ (.inr q2) (by omega)).trans q11⟩;rcases hk' with h|h
   ·exact .inl (by omega)
   ·exact .inr (q1 k h)
  ·
   rintro pre x C W ⟨Cb,q1,q2,q3,q4,q5,q6,hi,q8,hlt,hl,hk⟩ hlen;have hy:=run_yield (P:=P) (args:=encs x) hl (by rw[hrec];exact hps x);rw[hrec]at hy;refine⟨fn,_,assign,body,hy,roundIn_of_wpIn hfn (hassign _ x W _ fun a₁ Wa hAa hxa=>⟨_,run_beginRound ((Below.block hxa _ hlt).trans hl) (by rw[hrec]),?_⟩)⟩;have hla:=(Below.block hxa _ hlt).trans hl;have hka:=(Below.block hxa _ (by omega:w.heap.size<W.heap.size)).trans hk;have hsa:=hxa.size;obtain⟨W2,hW2⟩ : ∃ W2,Wa.putObj (w.heap.size+1) (.loop { rec .ready none with state:=.busy })=W2:=⟨_,rfl⟩
   rw[hW2];have hl2:W2.heap[w.heap.size+1]? = some (.loop { rec .ready none with state:=.busy }):=by rw[<-hW2];exact World.putObj_heap_same (by omega)
   have hk2:W2.heap[w.heap.size]? = some (.deferred (some [])):=by rw[<-hW2];exact(World.putObj_heap_other (by omega)).trans hka
   have hkeep2 : ∀ (X:Nat->Prop),¬ X (w.heap.size+1)->Keep X Wa W2:=fun X hX=>by rw[<-hW2];exact qq Wa _ _ hX
   have hs2:Wa.heap.size<=W2.heap.size:=(hkeep2 (fun _=>False) (fun h=>h)).size;have hi2:I pre Cb W2:=hI _ _ _ _ (hI _ _ _ _ hi (hxa.keep _)) (hkeep2 _ (fun h=>by rcases h with h|h;omega;exact q5 h));refine wpIn_mono (hbody _ pre x Cb W a₁ W2 hi2 (hA _ _ _ _ _ hAa (hkeep2 _ (fun h=>by have:W.heap.size<=w.heap.size+1:=h;omega))) (by omega) (by omega) q8 hlen) ?_;have fin : ∀ (jump:Option Code) (C':Blk) (W3:World),Goes (fun k=>Cb k\/W.heap.size<=k) W2 C' W3->
     (Instr.endRound (w.heap.size+1) jump).run P W3 = .ok (.bool jump.isNone) (W3.putObj (w.heap.size+1) (.loop (rec (if jump.isNone then .ready else .done) jump)))/\
     (W3.putObj (w.heap.size+1) (.loop (rec (if jump.isNone then .ready else .done) jump))).heap[w.heap.size+1]? = some (.loop (rec (if jump.isNone then .ready else .done) jump))/\
     (W3.putObj (w.heap.size+1) (.loop (rec (if jump.isNone then .ready else .done) jump))).heap[w.heap.size]? = some (.deferred (some []))/\
     (∀ X:Nat->Prop,¬ X (w.heap.size+1)->Keep X W3 (W3.putObj (w.heap.size+1) (.loop (rec (if jump.isNone then .ready else .done) jump))))/\
     ¬ C' w.heap.size/\¬ C' (w.heap.size+1)/\w.heap.size+1<W3.heap.size/\
     Goes C W (fun k=>C' k\/k=w.heap.size\/k=w.heap.size+1) (W3.putObj (w.heap.size+1) (.loop (rec (if jump.isNone then .ready else .done) jump))):=fun jump C' W3 hg3=>by
    obtain⟨hk3,hc3⟩:=hg3;have hl3:=(hk3.block _ (fun h=>by rcases h with h|h;exact q5 h;omega) (by omega)).trans hl2;have hd3:=(hk3.block _ (fun h=>by rcases h with h|h;exact q4 h;omega) (by omega)).trans hk2;have hlt3:=(blt hl3)
    have hkp : ∀ X:Nat->Prop,¬ X (w.heap.size+1)->Keep X W3 (W3.putObj (w.heap.size+1) (.loop (rec (if jump.isNone then .ready else .done) jump))):=fun X hX=>qq W3 _ _ hX;have:=run_endRound (P:=P) jump hl3;rw[hrec]at this ⊢;rw[hrec]at hkp;refine⟨this,World.putObj_heap_same hlt3,(World.putObj_heap_other (by omega)).trans hd3,hkp,fun h=>?_,fun h=>?_,hlt3,?_⟩
    ·rcases (hc3 _ h).1 with (h1|h1)|h1
     ·exact q4 h1
     ·omega
     ·omega
    ·rcases (hc3 _ h).1 with (h1|h1)|h1
     ·exact q5 h1
     ·omega
     ·omega
    ·have hS:Keep (fun k=>¬ Cb k/\k≠w.heap.size+1/\k<W.heap.size) W (W3.putObj (w.heap.size+1) (.loop (rec (if jump.isNone then .ready else .done) jump))):=by
      rw[hrec];exact(((hxa.keep _).trans (hkeep2 _ (fun h=>h.2.1 rfl))).trans (hk3.mono fun k hk' _ h=>by rcases h with h|h;exact hk'.1 h;(have:=hk'.2.2;omega))).trans (hkp _ (fun h=>h.2.1 rfl))
     rw[hrec]at hS;refine goes q1 q2 q3 q6 hlt (hS.mono fun k hk' hl'=>⟨hk'.1,hk'.2,hl'⟩) (fun k hk'=>?_);obtain⟨h1,h2⟩:=hc3 k hk';refine⟨?_,Nat.lt_of_lt_of_le h2 (hkp (fun _=>False) (fun h=>h)).size⟩;rcases h1 with (h1|h1)|h1
     ·exact .inl h1
     ·exact .inr h1
     ·exact .inr (by omega)
   rintro e a3 W3 hp;cases e with
   | normal=>
    obtain⟨C',hg3,hi3⟩:=hp;obtain⟨hr,hl4,hk4,hkp,n1,n2,hlt3,hgo⟩:=fin none C' W3 hg3;exact⟨_,_,hr,.inl ⟨rfl,_,⟨C',fun k h=>.inl h,.inr (.inl rfl),.inr (.inr rfl),n1,n2,fun k h=>h,hI _ _ _ _ hi3 (hkp _ (fun h=>by rcases h with h|h;omega;exact n2 h)),fun k h=>(hgo.2 k (.inl h)).2,Nat.lt_of_lt_of_le hlt3 (hkp (fun _=>False) (fun h=>h)).size,hl4,hk4⟩,hgo⟩⟩
   | ret=>
    obtain⟨C',hg3,hi3⟩:=hp;obtain⟨hr,hl4,hk4,hkp,n1,n2,hlt3,hgo⟩:=fin (some .ret) C' W3 hg3;exact⟨_,_,hr,.inr ⟨rfl,_,⟨C',fun k h=>.inl h,.inr (.inl rfl),.inr (.inr rfl),n1,n2,fun k h=>h,⟨.ret,hIx _ _ _ _ _ hi3 (hkp _ (fun h=>by rcases h with h|h;omega;exact n2 h)),hl4⟩,fun k h=>(hgo.2 k (.inl h)).2,Nat.lt_of_lt_of_le hlt3 (hkp (fun _=>False) (fun h=>h)).size,trivial,hk4⟩,hgo⟩⟩
   | exit id=>
    obtain⟨C',hg3,hi3⟩:=hp;obtain⟨hr,hl4,hk4,hkp,n1,n2,hlt3,hgo⟩:=fin (some (.exit id)) C' W3 hg3;exact⟨_,_,hr,.inr ⟨rfl,_,⟨C',fun k h=>.inl h,.inr (.inl rfl),.inr (.inr rfl),n1,n2,fun k h=>h,⟨.exit id,hIx _ _ _ _ _ hi3 (hkp _ (fun h=>by rcases h with h|h;omega;exact n2 h)),hl4⟩,fun k h=>(hgo.2 k (.inl h)).2,Nat.lt_of_lt_of_le hlt3 (hkp (fun _=>False) (fun h=>h)).size,trivial,hk4⟩,hgo⟩⟩
   | goto t=>
    obtain⟨C',hg3,hi3⟩:=hp;obtain⟨hr,hl4,hk4,hkp,n1,n2,hlt3,hgo⟩:=fin (some (.goto t)) C' W3 hg3;exact⟨_,_,hr,.inr ⟨rfl,_,⟨C',fun k h=>.inl h,.inr (.inl rfl),.inr (.inr rfl),n1,n2,fun k h=>h,⟨.goto t,hIx _ _ _ _ _ hi3 (hkp _ (fun h=>by rcases h with h|h;omega;exact n2 h)),hl4⟩,fun k h=>(hgo.2 k (.inl h)).2,Nat.lt_of_lt_of_le hlt3 (hkp (fun _=>False) (fun h=>h)).size,trivial,hk4⟩,hgo⟩⟩
   | panic ch=>exact hp.elim
   | outgrown=>exact hp.elim
  ·rintro k (h|h|h)
   ·have:=hC0 k h;omega
   ·omega
   ·omega
  ·exact⟨C0,fun k h=>.inl h,.inr (.inl rfl),.inr (.inr rfl),fun h=>by have:=hC0 _ h;omega,fun h=>by have:=hC0 _ h;omega,fun k h=>h,hI1,fun k h=>by have:=hC0 k h;omega,by omega,hL1,hK1⟩
  ·
   rintro e W2 ⟨⟨v,rfl⟩,(⟨xs,C,hS,Cb,q1,q2,q3,q4,q5,q6,hi,q8,hlt,hl,hk⟩|⟨pre,C,hSp,Cb,q1,q2,q3,q4,q5,q6,⟨c,hi,hl⟩,q8,hlt,-,hk⟩)⟩
   ·exact⟨none,_,by have:=run_endLoop (P:=P) hl (by rw[hrec];simp);rw[hrec]at this;exact this,hdone _ xs Cb _ (Nat.le_refl _) q4 hS (hI _ _ _ _ hi (qq W2 _ _ (fun h=>by rcases h with h|h;omega;exact q5 h))) ((World.putObj_heap_other (by omega)).trans hk)⟩
   ·exact⟨some c,_,by have:=run_endLoop (P:=P) hl (by rw[hrec];simp);rw[hrec]at this;exact this,hstop _ c pre Cb _ (Nat.le_refl _) q4 hSp (hIx c _ _ _ _ hi (qq W2 _ _ (fun h=>by rcases h with h|h;omega;exact q5 h))) ((World.putObj_heap_other (by omega)).trans hk)⟩
end
end
section
open Go.RowKit
def encR (x:Nat × Nat):Array Value:=#[.agg #[.int .i64 (x.1:Int),.int .i64 (x.2:Int)]]
theorem xj {w W:World}{p q r:Addr}{a b c:Value} (h:Ext w W) (c1:w.cell? p=some a/\w.cell? q=some b/\w.cell? r=some c):W.cell? p=some a/\W.cell? q=some b/\W.cell? r=some c:=⟨h.cellS c1.1,h.cellS c1.2.1,h.cellS c1.2.2⟩
def zlj (W:World) (now last:List Bool) (s3 s4:Value) (wx:World):Prop:=
 ∃ b3 b4 v3 v4,s3 = .pointer (some ⟨b3,0,none⟩)/\s4 = .pointer (some ⟨b4,0,none⟩)/\W.heap.size<=b3/\W.heap.size<=b4/\b3<wx.heap.size/\b4<wx.heap.size/\wx.cell? ⟨b3,0,none⟩=some v3/\wx.cell? ⟨b4,0,none⟩=some v4/\
  RdS rBo wx (fun k=>W.heap.size<=k/\k<wx.heap.size) v3 now/\RdS rBo wx (fun k=>W.heap.size<=k/\k<wx.heap.size) v4 last/\Ext W wx
theorem zql {W wz:World}{b3 b4:Nat}{v3 v4:Value}{now last:List Bool} (hx:Ext W wz) (h3:wz.heap[b3]? = some (.cells #[.slice none 0 0] 199 (0,0))) (h4:wz.heap[b4]? = some (.cells #[.slice none 0 0] 199 (0,0))) (hne:b3≠b4) (l3:W.heap.size<=b3) (l4:W.heap.size<=b4)
  (o3:RdS rBo wz (fun k=>W.heap.size<=k/\k≠b3/\k≠b4) v3 now) (o4:RdS rBo wz (fun k=>W.heap.size<=k/\k≠b3/\k≠b4) v4 last) :
  zlj W now last (.pointer (some ⟨b3,0,none⟩)) (.pointer (some ⟨b4,0,none⟩)) ((wz.setCell ⟨b3,0,none⟩ v3).setCell ⟨b4,0,none⟩ v4):=by
 have k3:=(blt h3)
 have k4:=(blt h4)
 have e3:=kv (o:=0) h3 v3;have e3':((wz.setCell ⟨b3,0,none⟩ v3).setCell ⟨b4,0,none⟩ v4).heap[b3]? = _:=(Below.heap_setCell (wz.setCell ⟨b3,0,none⟩ v3) ⟨b4,0,none⟩ v4 b3 hne).trans e3;have h4':(wz.setCell ⟨b3,0,none⟩ v3).heap[b4]? = _:=(Below.heap_setCell wz ⟨b3,0,none⟩ v3 b4 (fun e=>hne e.symm)).trans h4;have e4:=kv (o:=0) h4' v4;have hk:Keep (fun k=>W.heap.size<=k/\k≠b3/\k≠b4) wz ((wz.setCell ⟨b3,0,none⟩ v3).setCell ⟨b4,0,none⟩ v4):=
  ((Keep.refl _ wz).setCell (p:=⟨b3,0,none⟩) (fun h=>h.2.1 rfl) v3).setCell (p:=⟨b4,0,none⟩) (fun h=>h.2.2 rfl) v4
 refine⟨b3,b4,v3,v4,rfl,rfl,l3,l4,by simp only[xf];exact k3,by simp only[xf];exact k4,(cr 0 e3'),(cr 0 e4),(o3.kept hk).mono fun k h hl=>⟨h.1,hl⟩,(o4.kept hk).mono fun k h hl=>⟨h.1,hl⟩,(hx.setCell (p:=⟨b3,0,none⟩) l3 v3).setCell (p:=⟨b4,0,none⟩) l4 v4⟩
def ItS (W q:World) (B:Nat->Prop):Prop:=Ext W q/\∀ k,B k->W.heap.size<=k/\k<q.heap.size
def ItV (W q:World) (B:Nat->Prop) (v:Value) (xs:List Bool):Prop:=RdS rBo q (fun k=>W.heap.size<=k/\k<q.heap.size/\¬ B k) v xs
def ItB (q:World) (B:Nat->Prop) (b:Nat):Prop:=B b/\q.heap[b]? = some (.cells #[.slice none 0 0] 199 (0,0))
section
variable {W q q2:World}{B:Nat->Prop}{v:Value}{xs:List Bool}{b b2:Nat}
theorem ItS.on (h:ItS W q B) (hx:Ext q q2):ItS W q2 B:=⟨h.1.trans hx,fun k hk=>⟨(h.2 k hk).1,Nat.lt_of_lt_of_le (h.2 k hk).2 hx.size⟩⟩
theorem ItV.on (h:ItV W q B v xs) (hx:Ext q q2):ItV W q2 B v xs:=(RdS.ext h hx).mono fun k hk _=>⟨hk.1,Nat.lt_of_lt_of_le hk.2.1 hx.size,hk.2.2⟩
theorem ItB.on (h:ItB q B b) (hx:Ext q q2):ItB q2 B b:=⟨h.1,(Below.block hx b (blt h.2)).trans h.2⟩
theorem ItV.new (h:ItS W q B) (ho:OwnS rBo 4 q2 q.heap.size (fun _=>False) v xs):ItV W q2 B v xs:=ho.rd.mono fun k hk hl=>by
 rcases hk with hk|hk
 ·exact hk.elim
 ·have h1:=ho.lt k hk;have h2:=h.1.size;exact⟨by omega,hl,fun hb=>by have:=(h.2 k hb).2;omega⟩
theorem ItS.box (h:ItS W q B) (hx:Ext q q2) (hb:b=q.heap.size) (hz:q2.heap.size=b+1):ItS W q2 (fun k=>B k\/k=b):=⟨h.1.trans hx,fun k hk=>by
 have h2:=h.1.size;rcases hk with hk|hk
 ·have:=h.2 k hk;omega
 ·omega⟩
theorem ItV.box (h:ItV W q B v xs) (hx:Ext q q2) (hb:b=q.heap.size):ItV W q2 (fun k=>B k\/k=b) v xs:=(RdS.ext h hx).mono fun k hk hl=>⟨hk.1,hl,fun hc=>by
 rcases hc with hc|hc
 ·exact hk.2.2 hc
 ·omega⟩
theorem ItB.new (_:ItS W q B) (hn:q2.heap[b]? = some (.cells #[.slice none 0 0] 199 (0,0))):ItB q2 (fun k=>B k\/k=b) b:=⟨.inr rfl,hn⟩
theorem ItB.box (h:ItB q B b2) (hx:Ext q q2):ItB q2 (fun k=>B k\/k=b) b2:=⟨.inl h.1,(h.on hx).2⟩
theorem ItB.ne (h:ItB q B b2) (hs:ItS W q B) (hb:b=q.heap.size) : ¬ b2=b:=fun e=>by have:=(hs.2 b2 h.1).2;omega
theorem It.leaf {now last:List Bool}{b3 b4:Nat}{v3 v4:Value} (hs:ItS W q B) (h3:ItB q B b3) (h4:ItB q B b4) (hne:b3≠b4) (o3:ItV W q B v3 now) (o4:ItV W q B v4 last) :
  zlj W now last (.pointer (some ⟨b3,0,none⟩)) (.pointer (some ⟨b4,0,none⟩)) ((q.setCell ⟨b3,0,none⟩ v3).setCell ⟨b4,0,none⟩ v4):=
 zql hs.1 h3.2 h4.2 hne (hs.2 _ h3.1).1 (hs.2 _ h4.1).1 (RdS.mono o3 fun k hk _=>⟨hk.1,fun e=>hk.2.2 (e▸h3.1),fun e=>hk.2.2 (e▸h4.1)⟩) (RdS.mono o4 fun k hk _=>⟨hk.1,fun e=>hk.2.2 (e▸h3.1),fun e=>hk.2.2 (e▸h4.1)⟩)
end
theorem zlk (dep:Nat) (w:World) (g Bm:Nat) (vn vl:Value) (now last:List Bool) (hbox0:w.cell? ⟨Bm,0,none⟩=some (.pointer (some ⟨g,0,none⟩))) (hc00:w.cell? ⟨g,0,none⟩=some vn) (hc10:w.cell? ⟨g,1,none⟩=some vl)
  (hrn:RdS rBo w (fun _=>True) vn now) (hrl:RdS rBo w (fun _=>True) vl last) (hlen:last.length=now.length) (hlb:now.length<=512) :
  SeqC Fence.wide dep Tryz.prog 165 #[.pointer (some ⟨Bm,0,none⟩)] encR (znb now last) (zlc now last) w:=by
 intro l J Jx C W hW hJ hJx hY hC h0;refine callsIn_wide.2 ?_;have hbox:=hW.cellS hbox0;have hc0:=hW.cellS hc00;have hc1:=hW.cellS hc10;have HRN:=hid (hrn.ext hW);have HRL:=hid (hrl.ext hW);have HJ:=hid hJ;have HJX:=hid hJx;have HY:=hid hY;have HC:=hid hC;have H0:=hid h0;have hlb2:last.length<=512:=by omega
 have HLN:=hid hlen;clear hlen;clear hW hbox0 hc00 hc10 hrn hrl hJ hJx hY hC h0;simp only[List.push_toArray,List.append_toArray,List.nil_append,List.cons_append];go_enter Tryz.func165,Tryz.ntmps165;go_upto_region 1 with fail;go_cut [3,4] (fun s3 s4 wx=>zlj W now last s3 s4 wx)
 case first=>
  go_wp2_with fail;have hxd:Ext W W.drew:=by(exact Ext.xt)
  refine zr (fun w'=>w'.cell? ⟨Bm,0,none⟩=some (.pointer (some ⟨g,0,none⟩))/\w'.cell? ⟨g,0,none⟩=some vn/\w'.cell? ⟨g,1,none⟩=some vl) [12,13] (by as_aux_lemma=>kernel_rfl) (xj hxd ⟨hbox,hc0,hc1⟩) (fun hS=>?_);have HI:=hid (show ItS W W.drew (fun _=>False) from⟨hxd,fun _ h=>h.elim⟩);generalize W.drew=q at hS HI ⊢;(refine za 0 rfl ?_;(try simp only[Act.put,tq0,tq1,tq2,tq3,tq4,tq5]));(refine za 1 rfl ?_;(try simp only[Act.put,tq0,tq1,tq2,tq3,tq4,tq5]));(refine za 2 rfl ?_;(try simp only[Act.put,tq0,tq1,tq2,tq3,tq4,tq5]));(refine za 3 rfl ?_;(try simp only[Act.put,tq0,tq1,tq2,tq3,tq4,tq5]));(refine za 5 rfl ?_;(try simp only[Act.put,tq0,tq1,tq2,tq3,tq4,tq5]));(refine za 6 rfl ?_;(try simp only[Act.put,tq0,tq1,tq2,tq3,tq4,tq5]));(refine za 7 rfl ?_;(try simp only[Act.put,tq0,tq1,tq2,tq3,tq4,tq5]));(refine za 8 rfl ?_;(try simp only[Act.put,tq0,tq1,tq2,tq3,tq4,tq5]));all_goals(first|(refine ze (rs:=[4,10,11]) (by decide +kernel) (by decide) (AllT.consS rfl (fun K hK=>?_) (AllT.consS rfl (fun K hK=>?_) (AllT.consS rfl (fun K hK=>?_) AllT.nil)))))
  all_goals go_simp
  all_goals(first|((try go_at_call 145);refine(xy q (fun _=>True) vn now (HRN.out.ext HI.out.1) (by omega)).mono ?_;rintro e q2 ⟨v5,rfl,ho,hx⟩;obtain⟨a5,c5,rfl⟩:=ho.slice;have HO:=hid (ItV.new HI.out ho);(try have HA:=hid (HA.out.on hx));(try have HB:=hid (HB.out.on hx));have HI:=hid (HI.out.on hx);refine hK.out _ _ (xj hx hS) (fun hS=>?_);clear ho hx hK K;obtain⟨q,rfl⟩ : ∃ q,q=q2:=⟨_,rfl⟩)|((try go_at_call 145);refine(xy q (fun _=>True) vl last (HRL.out.ext HI.out.1) (by omega)).mono ?_;rintro e q2 ⟨v5,rfl,ho,hx⟩;obtain⟨a5,c5,rfl⟩:=ho.slice;have HL:=hid (ItV.new HI.out ho);(try have HO:=hid (HO.out.on hx));(try have HA:=hid (HA.out.on hx));(try have HB:=hid (HB.out.on hx));have HI:=hid (HI.out.on hx);refine hK.out _ _ (xj hx hS) (fun hS=>?_);clear ho hx hK K;obtain⟨q,rfl⟩ : ∃ q,q=q2:=⟨_,rfl⟩)|(refine hK.out _ _ (xj ((Ext.refl q).alloc _) hS) (fun hS=>?_);clear hK K;have hx:Ext q (q.alloc (.cells #[.slice none 0 0] 199)):=(Ext.refl _).alloc _;have hn:=heap_alloc_new q (.cells #[.slice none 0 0] 199);have hz:(q.alloc (.cells #[.slice none 0 0] 199)).heap.size=q.heap.size+1:=(by simp);obtain⟨b,hb⟩ : ∃ b,b=q.heap.size:=⟨_,rfl⟩;rw[<-hb]at hn hz ⊢;generalize (q.alloc (.cells #[.slice none 0 0] 199))=q2 at hx hn hz hS ⊢;(try have HO:=hid (HO.out.box hx hb));(try have HL:=hid (HL.out.box hx hb));(first|(have HNE:=hid (HA.out.ne HI.out hb);have HA:=hid (HA.out.box (b:=b) hx);have HB:=hid (ItB.new HI.out hn))|(have HA:=hid (ItB.new HI.out hn)));have HI:=hid (HI.out.box hx hb hz);clear hx hn hz hb;obtain⟨q,rfl⟩ : ∃ q,q=q2:=⟨_,rfl⟩))
  all_goals(first|(refine ze (rs:=[9,10,11]) (by decide +kernel) (by decide) (AllT.consS rfl (fun K hK=>?_) (AllT.consS rfl (fun K hK=>?_) (AllT.consS rfl (fun K hK=>?_) AllT.nil))))|(refine ze (rs:=[4,11]) (by decide +kernel) (by decide) (AllT.consS rfl (fun K hK=>?_) (AllT.consS rfl (fun K hK=>?_) AllT.nil)))|(refine ze (rs:=[4,10]) (by decide +kernel) (by decide) (AllT.consS rfl (fun K hK=>?_) (AllT.consS rfl (fun K hK=>?_) AllT.nil))))
  all_goals go_simp
  all_goals(first|((try go_at_call 145);refine(xy q (fun _=>True) vn now (HRN.out.ext HI.out.1) (by omega)).mono ?_;rintro e q2 ⟨v5,rfl,ho,hx⟩;obtain⟨a5,c5,rfl⟩:=ho.slice;have HO:=hid (ItV.new HI.out ho);(try have HA:=hid (HA.out.on hx));(try have HB:=hid (HB.out.on hx));have HI:=hid (HI.out.on hx);refine hK.out _ _ (xj hx hS) (fun hS=>?_);clear ho hx hK K;obtain⟨q,rfl⟩ : ∃ q,q=q2:=⟨_,rfl⟩)|((try go_at_call 145);refine(xy q (fun _=>True) vl last (HRL.out.ext HI.out.1) (by omega)).mono ?_;rintro e q2 ⟨v5,rfl,ho,hx⟩;obtain⟨a5,c5,rfl⟩:=ho.slice;have HL:=hid (ItV.new HI.out ho);(try have HO:=hid (HO.out.on hx));(try have HA:=hid (HA.out.on hx));(try have HB:=hid (HB.out.on hx));have HI:=hid (HI.out.on hx);refine hK.out _ _ (xj hx hS) (fun hS=>?_);clear ho hx hK K;obtain⟨q,rfl⟩ : ∃ q,q=q2:=⟨_,rfl⟩)|(refine hK.out _ _ (xj ((Ext.refl q).alloc _) hS) (fun hS=>?_);clear hK K;have hx:Ext q (q.alloc (.cells #[.slice none 0 0] 199)):=(Ext.refl _).alloc _;have hn:=heap_alloc_new q (.cells #[.slice none 0 0] 199);have hz:(q.alloc (.cells #[.slice none 0 0] 199)).heap.size=q.heap.size+1:=(by simp);obtain⟨b,hb⟩ : ∃ b,b=q.heap.size:=⟨_,rfl⟩;rw[<-hb]at hn hz ⊢;generalize (q.alloc (.cells #[.slice none 0 0] 199))=q2 at hx hn hz hS ⊢;(try have HO:=hid (HO.out.box hx hb));(try have HL:=hid (HL.out.box hx hb));(first|(have HNE:=hid (HA.out.ne HI.out hb);have HA:=hid (HA.out.box (b:=b) hx);have HB:=hid (ItB.new HI.out hn))|(have HA:=hid (ItB.new HI.out hn)));have HI:=hid (HI.out.box hx hb hz);clear hx hn hz hb;obtain⟨q,rfl⟩ : ∃ q,q=q2:=⟨_,rfl⟩))
  all_goals(first|(refine ze (rs:=[10,11]) (by decide +kernel) (by decide) (AllT.consS rfl (fun K hK=>?_) (AllT.consS rfl (fun K hK=>?_) AllT.nil)))|(refine ze (rs:=[9,11]) (by decide +kernel) (by decide) (AllT.consS rfl (fun K hK=>?_) (AllT.consS rfl (fun K hK=>?_) AllT.nil)))|(refine ze (rs:=[9,10]) (by decide +kernel) (by decide) (AllT.consS rfl (fun K hK=>?_) (AllT.consS rfl (fun K hK=>?_) AllT.nil)))|(refine ze (rs:=[4]) (by decide +kernel) (by decide) (AllT.consS rfl (fun K hK=>?_) AllT.nil)))
  all_goals go_simp
  all_goals(first|((try go_at_call 145);refine(xy q (fun _=>True) vn now (HRN.out.ext HI.out.1) (by omega)).mono ?_;rintro e q2 ⟨v5,rfl,ho,hx⟩;obtain⟨a5,c5,rfl⟩:=ho.slice;have HO:=hid (ItV.new HI.out ho);(try have HA:=hid (HA.out.on hx));(try have HB:=hid (HB.out.on hx));have HI:=hid (HI.out.on hx);refine hK.out _ _ (xj hx hS) (fun hS=>?_);clear ho hx hK K;obtain⟨q,rfl⟩ : ∃ q,q=q2:=⟨_,rfl⟩)|((try go_at_call 145);refine(xy q (fun _=>True) vl last (HRL.out.ext HI.out.1) (by omega)).mono ?_;rintro e q2 ⟨v5,rfl,ho,hx⟩;obtain⟨a5,c5,rfl⟩:=ho.slice;have HL:=hid (ItV.new HI.out ho);(try have HO:=hid (HO.out.on hx));(try have HA:=hid (HA.out.on hx));(try have HB:=hid (HB.out.on hx));have HI:=hid (HI.out.on hx);refine hK.out _ _ (xj hx hS) (fun hS=>?_);clear ho hx hK K;obtain⟨q,rfl⟩ : ∃ q,q=q2:=⟨_,rfl⟩)|(refine hK.out _ _ (xj ((Ext.refl q).alloc _) hS) (fun hS=>?_);clear hK K;have hx:Ext q (q.alloc (.cells #[.slice none 0 0] 199)):=(Ext.refl _).alloc _;have hn:=heap_alloc_new q (.cells #[.slice none 0 0] 199);have hz:(q.alloc (.cells #[.slice none 0 0] 199)).heap.size=q.heap.size+1:=(by simp);obtain⟨b,hb⟩ : ∃ b,b=q.heap.size:=⟨_,rfl⟩;rw[<-hb]at hn hz ⊢;generalize (q.alloc (.cells #[.slice none 0 0] 199))=q2 at hx hn hz hS ⊢;(try have HO:=hid (HO.out.box hx hb));(try have HL:=hid (HL.out.box hx hb));(first|(have HNE:=hid (HA.out.ne HI.out hb);have HA:=hid (HA.out.box (b:=b) hx);have HB:=hid (ItB.new HI.out hn))|(have HA:=hid (ItB.new HI.out hn)));have HI:=hid (HI.out.box hx hb hz);clear hx hn hz hb;obtain⟨q,rfl⟩ : ∃ q,q=q2:=⟨_,rfl⟩))
  all_goals(first|(refine ze (rs:=[9]) (by decide +kernel) (by decide) (AllT.consS rfl (fun K hK=>?_) AllT.nil))|(refine ze (rs:=[10]) (by decide +kernel) (by decide) (AllT.consS rfl (fun K hK=>?_) AllT.nil))|(refine ze (rs:=[11]) (by decide +kernel) (by decide) (AllT.consS rfl (fun K hK=>?_) AllT.nil)))
  all_goals go_simp
  all_goals(first|((try go_at_call 145);refine(xy q (fun _=>True) vn now (HRN.out.ext HI.out.1) (by omega)).mono ?_;rintro e q2 ⟨v5,rfl,ho,hx⟩;obtain⟨a5,c5,rfl⟩:=ho.slice;have HO:=hid (ItV.new HI.out ho);(try have HA:=hid (HA.out.on hx));(try have HB:=hid (HB.out.on hx));have HI:=hid (HI.out.on hx);refine hK.out _ _ (xj hx hS) (fun hS=>?_);clear ho hx hK K;obtain⟨q,rfl⟩ : ∃ q,q=q2:=⟨_,rfl⟩)|((try go_at_call 145);refine(xy q (fun _=>True) vl last (HRL.out.ext HI.out.1) (by omega)).mono ?_;rintro e q2 ⟨v5,rfl,ho,hx⟩;obtain⟨a5,c5,rfl⟩:=ho.slice;have HL:=hid (ItV.new HI.out ho);(try have HO:=hid (HO.out.on hx));(try have HA:=hid (HA.out.on hx));(try have HB:=hid (HB.out.on hx));have HI:=hid (HI.out.on hx);refine hK.out _ _ (xj hx hS) (fun hS=>?_);clear ho hx hK K;obtain⟨q,rfl⟩ : ∃ q,q=q2:=⟨_,rfl⟩)|(refine hK.out _ _ (xj ((Ext.refl q).alloc _) hS) (fun hS=>?_);clear hK K;have hx:Ext q (q.alloc (.cells #[.slice none 0 0] 199)):=(Ext.refl _).alloc _;have hn:=heap_alloc_new q (.cells #[.slice none 0 0] 199);have hz:(q.alloc (.cells #[.slice none 0 0] 199)).heap.size=q.heap.size+1:=(by simp);obtain⟨b,hb⟩ : ∃ b,b=q.heap.size:=⟨_,rfl⟩;rw[<-hb]at hn hz ⊢;generalize (q.alloc (.cells #[.slice none 0 0] 199))=q2 at hx hn hz hS ⊢;(try have HO:=hid (HO.out.box hx hb));(try have HL:=hid (HL.out.box hx hb));(first|(have HNE:=hid (HA.out.ne HI.out hb);have HA:=hid (HA.out.box (b:=b) hx);have HB:=hid (ItB.new HI.out hn))|(have HA:=hid (ItB.new HI.out hn)));have HI:=hid (HI.out.box hx hb hz);clear hx hn hz hb;obtain⟨q,rfl⟩ : ∃ q,q=q2:=⟨_,rfl⟩))
  all_goals
   have y1:=(cr 0 HA.out.2)
   have y2:=(cr 0 HB.out.2)
   have f1:=yp HA.out.2 0;have f2:=yp HB.out.2 0;have n1:=HNE.out;have n2:=fun e=>n1 (Eq.symm e);refine ze (rs:=[12]) (by as_aux_lemma=>kernel_rfl) (by decide) (AllT.consF rfl rfl (fun K hK=>?_) AllT.nil);go_simp;(refine hK.out _ _ ?_;clear hK K);refine ze (rs:=[13]) (by as_aux_lemma=>kernel_rfl) (by decide) (AllT.consF rfl rfl (fun K hK=>?_) AllT.nil);go_simp;(refine hK.out _ _ ?_;clear hK K);refine zn (by as_aux_lemma=>kernel_rfl) (NoPanic.normal ?_) _
  all_goals(go_wp2_with fail)
  all_goals go_meet
  all_goals(first|exact It.leaf HI.out HA.out HB.out n1 HO.out HL.out|exact It.leaf HI.out HB.out HA.out n2 HO.out HL.out)
 case rest=>
  obtain⟨b3,b4,v3,v4,rfl,rfl,l3,l4,k3,k4,z3,z4,o3,o4,hx⟩:=hcut;obtain⟨X,hX⟩ : ∃ X:Nat->Prop,X=fun k=>W.heap.size<=k/\k<wc.heap.size:=⟨_,rfl⟩
  rw[<-hX]at o3 o4;have HXX:=hid hX;have x3:X b3:=by rw[hX];exact⟨l3,k3⟩
  have x4:X b4:=by rw[hX];exact⟨l4,k4⟩
  have HZ3:=hid z3;have HZ4:=hid z4;have HO3:=hid o3;have HO4:=hid o4;obtain⟨a3,c3,e3,-,-⟩:=o3.slice;have HE3:=hid e3;have HX:=hid hx;have HJ0:=hid (HJ.out _ _ _ _ H0.out (hx.keep _));have hsx:=hx.size;clear hX l3 l4 k3 k4 z3 z4 o3 o4 hx e3;go_wp2_with fail;go_loopw [6] (fun u6 wr=>∃ (n:Nat) (pre:List (Nat × Nat)) (C':Blk),u6 = .int .i64 n/\n<=now.length+1/\Upto now last n pre/\J pre C' wr/\(∀ k,C' k->¬ X k/\k<wr.heap.size)/\Keep X wc wr) (fun u6 _=>now.length+1-(intOf u6).toNat);case atStart=>
   refine⟨0,[],C,rfl,by omega,Upto.zero _ _,HJ0.out,fun k hk=>⟨fun h=>?_,?_⟩,Keep.refl _ _⟩
   ·have:=HC.out k hk;rw[HXX.out]at h;have:=h.1;omega
   ·have:=HC.out k hk;omega
  case round=>
   obtain⟨wo,rfl⟩ : ∃ wo:World,wo=wr:=⟨_,rfl⟩
   obtain⟨n,pre,C',rfl,hn,hup,hj,hcx,hkx⟩:=hrel;have HUP:=hid hup;have HJ1:=hid hj;have HCX:=hid hcx;have HKX:=hid hkx;have y3:=hkx.cell HZ3.out x3;rw[HE3.out]at y3;have hsz:=hkx.size;clear hup hj hcx hkx;by_cases hlt:n<now.length
   ·go_wp2_with fail;obtain⟨gR,hgR⟩ : ∃ gR,gR=wo.heap.size:=⟨_,rfl⟩
    have hnew:=heap_alloc_new wo (.cells #[.int .i64 (n:Int),.int .i64 0] 209);have hxa:Ext wo (wo.alloc (.cells #[.int .i64 (n:Int),.int .i64 0] 209)):=(Ext.refl wo).alloc _;have hsa:(wo.alloc (.cells #[.int .i64 (n:Int),.int .i64 0] 209)).heap.size=wo.heap.size+1:=by simp
    rw[<-hgR]at hnew hsa ⊢;generalize (wo.alloc (.cells #[.int .i64 (n:Int),.int .i64 0] 209))=wa at hnew hxa hsa ⊢;have hgC : ¬ (gR<W.heap.size\/C' gR):=by
     rintro (h|h)
     ·omega
     ·have:=(HCX.out gR h).2;omega
    have hgX : ¬ X gR:=fun h=>by rw[HXX.out]at h;have:=h.2;omega
    have HNEW:=hid hnew;have HXA:=hid hxa;have HSA:=hid hsa;have HGC:=hid hgC;have HGX:=hid hgX;have HGR:=hid hgR;clear hnew hxa hsa hgC hgX y3 hgR;go_loopw [6] (fun u6 w2=>∃ k:Nat,u6 = .int .i64 ((n+k:Nat):Int)/\n+k<=now.length/\(∀ j,j<k->xl now last (n+j)=true)/\w2.heap[gR]? = some (.cells #[.int .i64 (n:Int),.int .i64 (k:Int)] 209 (0,0))/\J pre C' w2/\Keep X wc w2/\wo.heap.size<w2.heap.size) (fun u6 _=>now.length-(intOf u6).toNat);case atStart=>exact⟨0,by simp,by omega,fun j h=>by omega,HNEW.out,HJ.out _ _ _ _ HJ1.out (HXA.out.keep _),HKX.out.trans (HXA.out.keep _),by have:=HSA.out;have:=HGR.out;omega⟩
    case round=>
     obtain⟨w2,rfl⟩ : ∃ w2:World,w2=wr:=⟨_,rfl⟩
     obtain⟨k,rfl,hnk,hfk,hrow,hj2,hk2,hs2⟩:=hrel;have HFK:=hid hfk;have HROW:=hid hrow;have HJ2:=hid hj2;have HK2:=hid hk2;have q0:w2.cell? ⟨gR,0,none⟩=some (.int .i64 (n:Int)):=(cr 0 hrow)
     have q1:w2.cell? ⟨gR,1,none⟩=some (.int .i64 (k:Int)):=(cr 1 hrow)
     have f1:=yp hrow 1;clear hfk hrow hj2 hk2;go_wp2_with fail;refine(zs7 w2 b3 b4 v3 v4 now last X (HK2.out.cell HZ3.out x3) (HK2.out.cell HZ4.out x4) (HO3.out.kept HK2.out) (HO4.out.kept HK2.out) HLN.out (n+k) (by omega) (by omega)).mono ?_;rintro e w2' ⟨rfl,rfl⟩;cases hf:xl now last (n+k) with
     | true=>
      have hlt2:n+k<now.length:=by
       rcases Nat.lt_or_ge (n+k) now.length with h|h
       ·exact h
       ·rw[zbt h]at hf;cases hf
      have HF:=hid hf;clear hf;go_wp2_with fail;go_roundw;case rel=>
       refine⟨k+1,by go_num,by omega,fun j hj=>?_,(kv HROW.out _).trans ?_,HJ.out _ _ _ _ HJ2.out ((Keep.refl _ _).setCell (p:=⟨gR,1,none⟩) HGC.out _),HK2.out.setCell (p:=⟨gR,1,none⟩) HGX.out _,by simp only[xf];exact hs2⟩
       ·rcases Nat.lt_or_ge j k with h|h
        ·exact HFK.out j h
        ·obtain rfl:j=k:=by omega
         exact HF.out
       ·simp
      case measure=>simp[intOf];omega
     | false=>
      have HF:=hid hf;clear hf;by_cases hk0:k=0
      ·subst hk0;have hc2:=hs2;go_wp2_with fail;go_roundw;case rel=>exact⟨n+1,pre,C',by go_num,by omega,HUP.out.skip HF.out,HJ2.out,fun j hj=>⟨(HCX.out j hj).1,by have:=(HCX.out j hj).2;omega⟩,HK2.out⟩
       case measure=>simp[intOf];omega
      ·have hkp:(0:Int)<(k:Int):=by omega
       obtain⟨hup2,hok⟩:=HUP.out.run (k:=k) (by omega) HFK.out HF.out;obtain⟨fn,tmps,assign,body,hy,hR⟩:=HY.out pre (n,k) C' w2 HJ2.out hok;simp only[encR]at hy;have HUP2:=hid hup2;have HOK:=hid hok;clear hup2 hok;go_upto_region 10 with fail;refine(wpIn_wide (n:=dep)).1 ?_;gi_wp2
       refine⟨fun h=>by simp[Fence.wide]at h,hR.mono ?_⟩;clear hR hy;rintro e W' (⟨rfl,C2,hJ3,hg1,hg2⟩|⟨rfl,C2,hJx3,hg1,hg2⟩)
       ·have HJ3:=hid hJ3;have HG1:=hid hg1;have HG2:=hid hg2;have hsz':=hg1.size;clear hJ3 hg1 hg2;gi_wp2
        go_wp2_with fail;go_roundw;case rel=>
         refine⟨n+k+1,pre++[(n,k)],C2,by go_num,by omega,HUP2.out,HJ3.out,fun j hj=>⟨fun h=>?_,(HG2.out j hj).2⟩,HK2.out.trans (HG1.out.mono fun j hj _ h=>(HCX.out j h).1 hj)⟩;rcases (HG2.out j hj).1 with h1|h1
         ·exact(HCX.out j h1).1 h
         ·rw[HXX.out]at h;have:=h.2;omega
        case measure=>simp[intOf];omega
       ·have HJX3:=hid hJx3;clear hJx3 hg1 hg2;gi_wp2
        go_wp2_with fail;refine bodyPost_ret (results_none rfl _ _ _) rfl ?_;exact⟨⟨_,rfl⟩,.inr ⟨pre++[(n,k)],C2,HOK.out,HJX3.out⟩⟩
   ·have hall:=HUP.out.all (by omega);have HALL:=hid hall;clear hall;go_wp2_with fail;go_end0;exact⟨⟨_,rfl⟩,.inl ⟨pre,C',HALL.out,HJ1.out⟩⟩
end
end Go.Proofs.YtnadlnmclameiaaGreatDoor
