/- part 39 -/
import Derived.Test.YtnadlnmclameiaaGreatDoorTS38
set_option maxRecDepth 100000
set_option maxHeartbeats 8000000
set_option linter.all false
namespace Go.Proofs.YtnadlnmclameiaaGreatDoor
section
open Go.RowKit
def SeqD {α:Type} (F:Fence) (n:Nat) (P:Program) (g:Nat) (lb:Array Value) (encs:α->Array Value) (X:Blk) (R:Nat->α->World->Prop) (S Ok:List α->Prop) (w:World):Prop:=
 ∀ (l:Nat) (J Jx:List α->Blk->World->Prop) (C:Blk) (W:World),Ext w W->Stab W.heap.size J->Stab W.heap.size Jx->
  (∀ pre x C W1,J pre C W1->R W.heap.size x W1->Ok (pre++[x])->YieldAt F (n-1) P l (encs x) W1 fun e W'=>
   (e = .returned (.bool true)/\∃ C',J (pre++[x]) C' W'/\Goes C W1 C' W')\/(e = .returned (.bool false)/\∃ C',Jx (pre++[x]) C' W'/\Goes C W1 C' W'))->
  (∀ k,C k->k<W.heap.size/\¬ X k)->J [] C W->
  CallsIn F n P g (#[.func (.yield l) #[] #[]]++lb) W fun e W'=>(∃ v,e = .returned v)/\((∃ xs C',S xs/\J xs C' W')\/(∃ pre C',Ok pre/\Jx pre C' W'))
section
variable {F:Fence}{n:Nat}{P:Program}
theorem zf2 {α:Type}{g:Operand}{ps:Array Tmp}{assign body:Code}{Q:Exit->Act->World->Prop}{a:Act}{w:World}
  (hro:F.round=none) (h1:1<=n) {gf:Nat}{lb:Array Value} (hg:a.eval g = .func (.func gf) #[] lb) (hFg:F.fn gf) (eg : ∀ args w,(callFunc gf args).run P w = .ok (.enter gf args) w)
  {encs:α->Array Value}{X:Blk}{R:Nat->α->World->Prop} (hR : ∀ B x W W',R B x W->Keep (fun k=>B<=k) W W'->R B x W') {S Ok:List α->Prop}{w0:World} (hseq:SeqD F (n-1) P gf lb encs X R S Ok w0) (hX : ∀ k,X k->k<w.heap.size) (hb0:Ext w0 w) (hps : ∀ x,(encs x).size=ps.size)
  (I:List α->Blk->World->Prop) (Ix:Code->List α->Blk->World->Prop) (hI:Stab w.heap.size I) (hIx : ∀ c,Stab w.heap.size (Ix c)) (C0:Blk) (hC0 : ∀ k,C0 k->k<w.heap.size/\¬ X k) (h0:I [] C0 w) (A:α->World->Act->World->Prop)
  (hA : ∀ x W a₁ W₁ W₂,A x W a₁ W₁->Keep (fun k=>W.heap.size<=k) W₁ W₂->A x W a₁ W₂)
  (hassign : ∀ (l:Nat) (x:α) (W:World) (K:Act->World->Prop),R (w.heap.size+2) x W->(∀ a₁ W₁,A x W a₁ W₁->Ext W W₁->K a₁ W₁)->
   assign.wpIn (F.inRound l) (n-1-1) P (Exit.then K (fun _ _ _=>False)) { tmps:=(ps.zip (encs x)).foldl (fun t (p,v)=>t.setIfInBounds p v) a.tmps,defers:=[] } W)
  (hbody : ∀ (l:Nat) (pre:List α) (x:α) (C:Blk) (W:World) (a₁:Act) (W₂:World),I pre C W₂->A x W a₁ W₂->R (w.heap.size+2) x W₂->w.heap.size<W.heap.size->W.heap.size<=W₂.heap.size->(∀ k,C k->k<W.heap.size)->Ok (pre++[x])->body.wpIn (F.inRound l) (n-1-1) P (zuc (fun k=>C k\/W.heap.size<=k) I Ix (pre++[x]) W₂) a₁ W₂)
  (hdone : ∀ (D:Nat) (xs:List α) (C:Blk) (W:World),w.heap.size<=D->¬ C D->S xs->I xs C W->W.heap[D]? = some (.deferred (some []))->Q .normal { a with defers:={ target:=.collected D,args:=#[] } :: a.defers } W)
  (hstop : ∀ (D:Nat) (c:Code) (pre:List α) (C:Blk) (W:World),w.heap.size<=D->¬ C D->Ok pre->Ix c pre C W->W.heap[D]? = some (.deferred (some []))->c.wpIn F n P Q { a with defers:={ target:=.collected D,args:=#[] } :: a.defers } W) :
  (Code.rangeFunc g ps assign body).wpIn F n P Q a w:=by
 refine wpIn_rangeFunc ?_;intro fn hfn;rw[hro];obtain⟨rec,hrec⟩ : ∃ rec:LoopState->Option Code->Loop,rec=fun st pe=>{ state:=st,pending:=pe,fn,tmps:=a.tmps,params:=ps,assign,body,defers:=w.heap.size }:=⟨_,rfl⟩
 obtain⟨W1,hW1⟩ : ∃ W1,(w.alloc (.deferred (some []))).alloc (.loop (rec .ready none))=W1:=⟨_,rfl⟩
 have hs1:W1.heap.size=w.heap.size+2:=by rw[<-hW1];simp
 have hL1:W1.heap[w.heap.size+1]? = some (.loop (rec .ready none)):=by
  rw[<-hW1];have:=World.alloc_heap_new (w.alloc (.deferred (some []))) (.loop (rec .ready none));rwa [World.size_alloc]at this
 have hK1:W1.heap[w.heap.size]? = some (.deferred (some [])):=by
  rw[<-hW1];exact(Below.heap_alloc _ _ _ (by simp)).trans (World.alloc_heap_new w _)
 have hx1:Ext w W1:=by rw[<-hW1];exact((Ext.refl w).alloc _).alloc _
 have hI1:I [] C0 W1:=hI _ _ _ _ h0 (hx1.keep _);refine⟨w.heap.size+1,[{ target:=.collected w.heap.size,args:=#[] }],W1,{ target:=.fn (.func gf) lb,args:=#[.func (.yield (w.heap.size+1)) #[] #[]] },W1,gf,
  #[.func (.yield (w.heap.size+1)) #[] #[]]++lb,W1,?_,?_,?_,?_,fun _=>h1,?_⟩
 ·rw[<-hW1,hrec];exact run_enterLoop_outer _ _ _ _ _
 ·simp only[resolve,hg];simp[go_sem]
 ·intro f' hf';simp[Target.leads]at hf';subst hf';exact hFg
 ·simp[invoke,go_sem,eg]
 ·have hstab : ∀ (X:List α->Blk->World->Prop),Stab w.heap.size X->∀ (r:World->Prop),(∀ W W',r W->W'.heap[w.heap.size+1]? = W.heap[w.heap.size+1]?->r W')->
    Stab W1.heap.size (fun pre C W=>∃ Cb:Blk,(∀ k,Cb k->C k)/\C (w.heap.size)/\C (w.heap.size+1)/\¬ Cb w.heap.size/\¬ Cb (w.heap.size+1)/\(∀ k,C k->Cb k\/k=w.heap.size\/k=w.heap.size+1)/\X pre Cb W/\(∀ k,Cb k->k<W.heap.size)/\w.heap.size+1<W.heap.size/\r W/\W.heap[w.heap.size]? = some (.deferred (some []))):=by
   rintro X hX r hr s C A B ⟨Cb,q1,q2,q3,q4,q5,q6,q7,q8,q9,q10,q11⟩ hk;refine⟨Cb,q1,q2,q3,q4,q5,q6,hX _ _ _ _ q7 (hk.mono fun k hk' _=>?_),fun k hk'=>Nat.lt_of_lt_of_le (q8 k hk') hk.size,Nat.lt_of_lt_of_le q9 hk.size,hr _ _ q10 (hk.block _ (.inr q3) q9),(hk.block _ (.inr q2) (by omega)).trans q11⟩;rcases hk' with h|h
   ·exact .inl (by omega)
   ·exact .inr (q1 k h)
  have goes : ∀ {C Cb C':Blk}{A B:World},(∀ k,Cb k->C k)->C w.heap.size->C (w.heap.size+1)->(∀ k,C k->Cb k\/k=w.heap.size\/k=w.heap.size+1)->w.heap.size+1<A.heap.size->Keep (fun k=>¬ Cb k/\k≠w.heap.size+1) A B->(∀ k,C' k->(Cb k\/A.heap.size<=k)/\k<B.heap.size)->
    Goes C A (fun k=>C' k\/k=w.heap.size\/k=w.heap.size+1) B:=by
   intro C Cb C' A B q1 q2 q3 q6 q9 hk hc;refine⟨hk.mono fun k hk' _=>⟨fun h=>hk' (q1 k h),fun e=>hk' (e▸q3)⟩,fun k hk'=>?_⟩;have hsz:=hk.size;rcases hk' with h|h|h
   ·obtain⟨h1,h2⟩:=hc k h;refine⟨?_,h2⟩;rcases h1 with h1|h1
    ·exact .inl (q1 k h1)
    ·exact .inr h1
   ·subst h;exact⟨.inl q2,by omega⟩
   ·subst h;exact⟨.inl q3,by omega⟩
  refine(hseq (w.heap.size+1)
   (fun pre C W=>∃ Cb:Blk,(∀ k,Cb k->C k)/\C (w.heap.size)/\C (w.heap.size+1)/\¬ Cb w.heap.size/\¬ Cb (w.heap.size+1)/\(∀ k,C k->Cb k\/k=w.heap.size\/k=w.heap.size+1)/\I pre Cb W/\(∀ k,Cb k->k<W.heap.size)/\w.heap.size+1<W.heap.size/\W.heap[w.heap.size+1]? = some (.loop (rec .ready none))/\W.heap[w.heap.size]? = some (.deferred (some [])))
   (fun pre C W=>∃ Cb:Blk,(∀ k,Cb k->C k)/\C (w.heap.size)/\C (w.heap.size+1)/\¬ Cb w.heap.size/\¬ Cb (w.heap.size+1)/\(∀ k,C k->Cb k\/k=w.heap.size\/k=w.heap.size+1)/\(∃ c,Ix c pre Cb W/\W.heap[w.heap.size+1]? = some (.loop (rec .done (some c))))/\(∀ k,Cb k->k<W.heap.size)/\w.heap.size+1<W.heap.size/\True/\W.heap[w.heap.size]? = some (.deferred (some [])))
   (fun k=>C0 k\/k=w.heap.size\/k=w.heap.size+1)
   W1 (hb0.trans hx1) (hstab I hI (fun W=>W.heap[w.heap.size+1]? = some (.loop (rec .ready none))) (fun A B h e=>e.trans h)) ?_ ?_ ?_ ?_).mono ?_
  ·rintro s C A B ⟨Cb,q1,q2,q3,q4,q5,q6,⟨c,q7,q7'⟩,q8,q9,q10,q11⟩ hk;refine⟨Cb,q1,q2,q3,q4,q5,q6,⟨c,hIx c _ _ _ _ q7 (hk.mono fun k hk' _=>?_),(hk.block _ (.inr q3) q9).trans q7'⟩,fun k hk'=>Nat.lt_of_lt_of_le (q8 k hk') hk.size,Nat.lt_of_lt_of_le q9 hk.size,trivial,(hk.block _ (.inr q2) (by omega)).trans q11⟩;rcases hk' with h|h
   ·exact .inl (by omega)
   ·exact .inr (q1 k h)
  ·
   rintro pre x C W ⟨Cb,q1,q2,q3,q4,q5,q6,hi,q8,hlt,hl,hk⟩ hrx hlen;rw[hs1]at hrx;have hy:=run_yield (P:=P) (args:=encs x) hl (by rw[hrec];exact hps x);rw[hrec]at hy;refine⟨fn,_,assign,body,hy,roundIn_of_wpIn hfn (hassign _ x W _ hrx fun a₁ Wa hAa hxa=>⟨_,run_beginRound ((Below.block hxa _ hlt).trans hl) (by rw[hrec]),?_⟩)⟩;have hla:=(Below.block hxa _ hlt).trans hl;have hka:=(Below.block hxa _ (by omega:w.heap.size<W.heap.size)).trans hk;have hsa:=hxa.size;obtain⟨W2,hW2⟩ : ∃ W2,Wa.putObj (w.heap.size+1) (.loop { rec .ready none with state:=.busy })=W2:=⟨_,rfl⟩
   rw[hW2];have hl2:W2.heap[w.heap.size+1]? = some (.loop { rec .ready none with state:=.busy }):=by rw[<-hW2];exact World.putObj_heap_same (by omega)
   have hk2:W2.heap[w.heap.size]? = some (.deferred (some [])):=by rw[<-hW2];exact(World.putObj_heap_other (by omega)).trans hka
   have hkeep2 : ∀ (X:Nat->Prop),¬ X (w.heap.size+1)->Keep X Wa W2:=fun X hX=>by rw[<-hW2];exact qq Wa _ _ hX
   have hs2:Wa.heap.size<=W2.heap.size:=(hkeep2 (fun _=>False) (fun h=>h)).size;have hi2:I pre Cb W2:=hI _ _ _ _ (hI _ _ _ _ hi (hxa.keep _)) (hkeep2 _ (fun h=>by rcases h with h|h;omega;exact q5 h));refine wpIn_mono (hbody _ pre x Cb W a₁ W2 hi2 (hA _ _ _ _ _ hAa (hkeep2 _ (fun h=>by have:W.heap.size<=w.heap.size+1:=h;omega))) (hR _ _ _ _ hrx ((hxa.keep _).trans (hkeep2 _ (fun h=>by have:w.heap.size+2<=w.heap.size+1:=h;omega)))) (by omega) (by omega) q8 hlen) ?_;have fin : ∀ (jump:Option Code) (C':Blk) (W3:World),Goes (fun k=>Cb k\/W.heap.size<=k) W2 C' W3->
     (Instr.endRound (w.heap.size+1) jump).run P W3 = .ok (.bool jump.isNone) (W3.putObj (w.heap.size+1) (.loop (rec (if jump.isNone then .ready else .done) jump)))/\
     (W3.putObj (w.heap.size+1) (.loop (rec (if jump.isNone then .ready else .done) jump))).heap[w.heap.size+1]? = some (.loop (rec (if jump.isNone then .ready else .done) jump))/\
     (W3.putObj (w.heap.size+1) (.loop (rec (if jump.isNone then .ready else .done) jump))).heap[w.heap.size]? = some (.deferred (some []))/\
     (∀ X:Nat->Prop,¬ X (w.heap.size+1)->Keep X W3 (W3.putObj (w.heap.size+1) (.loop (rec (if jump.isNone then .ready else .done) jump))))/\
     ¬ C' w.heap.size/\¬ C' (w.heap.size+1)/\w.heap.size+1<W3.heap.size/\
     Goes C W (fun k=>C' k\/k=w.heap.size\/k=w.heap.size+1) (W3.putObj (w.heap.size+1) (.loop (rec (if jump.isNone then .ready else .done) jump))):=fun jump C' W3 hg3=>by
    obtain⟨hk3,hc3⟩:=hg3;have hl3:=(hk3.block _ (fun h=>by rcases h with h|h;exact q5 h;omega) (by omega)).trans hl2;have hd3:=(hk3.block _ (fun h=>by rcases h with h|h;exact q4 h;omega) (by omega)).trans hk2;have hlt3:=(blt hl3)
    have hkp : ∀ X:Nat->Prop,¬ X (w.heap.size+1)->Keep X W3 (W3.putObj (w.heap.size+1) (.loop (rec (if jump.isNone then .ready else .done) jump))):=fun X hX=>qq W3 _ _ hX;have:=run_endRound (P:=P) jump hl3;rw[hrec]at this ⊢;rw[hrec]at hkp;refine⟨this,World.putObj_heap_same hlt3,(World.putObj_heap_other (by omega)).trans hd3,hkp,fun h=>?_,fun h=>?_,hlt3,?_⟩
    ·rcases (hc3 _ h).1 with (h1|h1)|h1
     ·exact q4 h1
     ·omega
     ·omega
    ·rcases (hc3 _ h).1 with (h1|h1)|h1
     ·exact q5 h1
     ·omega
     ·omega
    ·have hS:Keep (fun k=>¬ Cb k/\k≠w.heap.size+1/\k<W.heap.size) W (W3.putObj (w.heap.size+1) (.loop (rec (if jump.isNone then .ready else .done) jump))):=by
      rw[hrec];exact(((hxa.keep _).trans (hkeep2 _ (fun h=>h.2.1 rfl))).trans (hk3.mono fun k hk' _ h=>by rcases h with h|h;exact hk'.1 h;(have:=hk'.2.2;omega))).trans (hkp _ (fun h=>h.2.1 rfl))
     rw[hrec]at hS;refine goes q1 q2 q3 q6 hlt (hS.mono fun k hk' hl'=>⟨hk'.1,hk'.2,hl'⟩) (fun k hk'=>?_);obtain⟨h1,h2⟩:=hc3 k hk';refine⟨?_,Nat.lt_of_lt_of_le h2 (hkp (fun _=>False) (fun h=>h)).size⟩;rcases h1 with (h1|h1)|h1
     ·exact .inl h1
     ·exact .inr h1
     ·exact .inr (by omega)
   rintro e a3 W3 hp;cases e with
   | normal=>
    obtain⟨C',hg3,hi3⟩:=hp;obtain⟨hr,hl4,hk4,hkp,n1,n2,hlt3,hgo⟩:=fin none C' W3 hg3;exact⟨_,_,hr,.inl ⟨rfl,_,⟨C',fun k h=>.inl h,.inr (.inl rfl),.inr (.inr rfl),n1,n2,fun k h=>h,hI _ _ _ _ hi3 (hkp _ (fun h=>by rcases h with h|h;omega;exact n2 h)),fun k h=>(hgo.2 k (.inl h)).2,Nat.lt_of_lt_of_le hlt3 (hkp (fun _=>False) (fun h=>h)).size,hl4,hk4⟩,hgo⟩⟩
   | ret=>
    obtain⟨C',hg3,hi3⟩:=hp;obtain⟨hr,hl4,hk4,hkp,n1,n2,hlt3,hgo⟩:=fin (some .ret) C' W3 hg3;exact⟨_,_,hr,.inr ⟨rfl,_,⟨C',fun k h=>.inl h,.inr (.inl rfl),.inr (.inr rfl),n1,n2,fun k h=>h,⟨.ret,hIx _ _ _ _ _ hi3 (hkp _ (fun h=>by rcases h with h|h;omega;exact n2 h)),hl4⟩,fun k h=>(hgo.2 k (.inl h)).2,Nat.lt_of_lt_of_le hlt3 (hkp (fun _=>False) (fun h=>h)).size,trivial,hk4⟩,hgo⟩⟩
   | exit id=>
    obtain⟨C',hg3,hi3⟩:=hp;obtain⟨hr,hl4,hk4,hkp,n1,n2,hlt3,hgo⟩:=fin (some (.exit id)) C' W3 hg3;exact⟨_,_,hr,.inr ⟨rfl,_,⟨C',fun k h=>.inl h,.inr (.inl rfl),.inr (.inr rfl),n1,n2,fun k h=>h,⟨.exit id,hIx _ _ _ _ _ hi3 (hkp _ (fun h=>by rcases h with h|h;omega;exact n2 h)),hl4⟩,fun k h=>(hgo.2 k (.inl h)).2,Nat.lt_of_lt_of_le hlt3 (hkp (fun _=>False) (fun h=>h)).size,trivial,hk4⟩,hgo⟩⟩
   | goto t=>
    obtain⟨C',hg3,hi3⟩:=hp;obtain⟨hr,hl4,hk4,hkp,n1,n2,hlt3,hgo⟩:=fin (some (.goto t)) C' W3 hg3;exact⟨_,_,hr,.inr ⟨rfl,_,⟨C',fun k h=>.inl h,.inr (.inl rfl),.inr (.inr rfl),n1,n2,fun k h=>h,⟨.goto t,hIx _ _ _ _ _ hi3 (hkp _ (fun h=>by rcases h with h|h;omega;exact n2 h)),hl4⟩,fun k h=>(hgo.2 k (.inl h)).2,Nat.lt_of_lt_of_le hlt3 (hkp (fun _=>False) (fun h=>h)).size,trivial,hk4⟩,hgo⟩⟩
   | panic ch=>exact hp.elim
   | outgrown=>exact hp.elim
  ·rintro k (h|h|h)
   ·have:=hC0 k h;exact⟨by omega,this.2⟩
   ·exact⟨by omega,fun hx=>by have:=hX k hx;omega⟩
   ·exact⟨by omega,fun hx=>by have:=hX k hx;omega⟩
  ·exact⟨C0,fun k h=>.inl h,.inr (.inl rfl),.inr (.inr rfl),fun h=>by have:=hC0 _ h;omega,fun h=>by have:=hC0 _ h;omega,fun k h=>h,hI1,fun k h=>by have:=hC0 k h;omega,by omega,hL1,hK1⟩
  ·
   rintro e W2 ⟨⟨v,rfl⟩,(⟨xs,C,hS,Cb,q1,q2,q3,q4,q5,q6,hi,q8,hlt,hl,hk⟩|⟨pre,C,hSp,Cb,q1,q2,q3,q4,q5,q6,⟨c,hi,hl⟩,q8,hlt,-,hk⟩)⟩
   ·exact⟨none,_,by have:=run_endLoop (P:=P) hl (by rw[hrec];simp);rw[hrec]at this;exact this,hdone _ xs Cb _ (Nat.le_refl _) q4 hS (hI _ _ _ _ hi (qq W2 _ _ (fun h=>by rcases h with h|h;omega;exact q5 h))) ((World.putObj_heap_other (by omega)).trans hk)⟩
   ·exact⟨some c,_,by have:=run_endLoop (P:=P) hl (by rw[hrec];simp);rw[hrec]at this;exact this,hstop _ c pre Cb _ (Nat.le_refl _) q4 hSp (hIx c _ _ _ _ hi (qq W2 _ _ (fun h=>by rcases h with h|h;omega;exact q5 h))) ((World.putObj_heap_other (by omega)).trans hk)⟩
end
end
section
open Go.RowKit Go.Maps
abbrev ElF:=Int × (Value × SFr)
def encF (x:ElF):Array Value:=#[.int .i64 x.1,.agg #[.int .u8 ((x.2.2.1.toNat:Nat):Int),x.2.1]]
def elF (B:Nat) (x:ElF) (W:World):Prop:=OwnB W B x.2.1 x.2.2.2
theorem elF.keep {B:Nat}{x:ElF}{W W':World} (h:elF B x W) (hk:Keep (fun k=>B<=k) W W'):elF B x W':=hk.ownB h fun k hb=>(World.ownsRow.lt h k hb).1
def frs (xs:List ElF):List SFr:=xs.map fun x=>x.2.2
theorem zdz (xs:List ElF) (x:ElF):frs (xs++[x])=frs xs++[x.2.2]:=by simp[frs]
def AllF (fs:List SFr) (xs:List ElF):Prop:=frs xs=fs
def OkF (fs:List SFr) (xs:List ElF):Prop:=frs xs <+: fs
theorem zow (w:World) (p:Option Addr) :
  Calls Tryz.prog 31 #[.pointer p] w fun e w'=>e = .returned (.func (.func 69) #[] #[.pointer (some ⟨w.heap.size,0,none⟩)])/\w'=w.alloc (.cells #[.pointer p] 71):=by
 go_enter Tryz.func31,Tryz.ntmps31;go_wp2_with fail;go_ret;exact⟨rfl,rfl⟩
theorem zmd (dep:Nat) (w:World) (gs Bm:Nat) (S:Nat->Prop) (v:Value) (fs:List SFr) (hbox0:w.cell? ⟨Bm,0,none⟩=some (.pointer (some ⟨gs,0,none⟩))) (hc00:w.cell? ⟨gs,1,none⟩=some v)
  (hr:RdS rSf w S v fs) (hSl : ∀ k,S k->k<w.heap.size) (hl:fs.length<=100000) (hd : ∀ f∈fs,f.2.length<=1000000) :
  SeqD Fence.wide dep Tryz.prog 69 #[.pointer (some ⟨Bm,0,none⟩)] encF S elF (AllF fs) (OkF fs) w:=by
 intro l J Jx C W hW hJ hJx hY hC h0;refine callsIn_wide.2 ?_;have hbox:=hW.cellS hbox0;have hc0:=hW.cellS hc00;have HSL:=hid (show ∀ k,S k->k<W.heap.size from fun k hk=>Nat.lt_of_lt_of_le (hSl k hk) hW.size);obtain⟨a,c,rfl,hc1,hc2⟩:=hr.slice;have HR:=hid (hr.ext hW);have HD:=hid hd;have HJ:=hid hJ;have HJX:=hid hJx;have HY:=hid hY;have HC:=hid hC;have H0:=hid h0;clear hW hbox0 hc00 hr hSl hd hJ hJx hY hC h0;simp only[List.push_toArray,List.append_toArray,List.nil_append,List.cons_append];go_enter Tryz.func69,Tryz.ntmps69;go_upto_region 1 with fail;go_quiet (fail);go_wp2_with fail;have hlf:fs.length<=100000:=hl;go_loopw [23] (fun u23 wr=>∃ (n:Nat) (pre:List ElF) (C':Blk),u23 = .int .i64 (n:Int)/\n<=fs.length/\frs pre=fs.take n/\J pre C' wr/\(∀ k,C' k->¬ S k/\k<wr.heap.size)/\Keep S W wr) (fun u23 _=>fs.length-(intOf u23).toNat);case atStart=>exact⟨0,[],C,rfl,by omega,rfl,HJ.out _ _ _ _ H0.out (((Ext.refl W).drewN _).keep _),fun k hk=>⟨(HC.out k hk).2,by simpa using (HC.out k hk).1⟩,((Ext.refl W).drewN _).keep _⟩
 case round=>
  obtain⟨n,pre,C',rfl,hn,hfr,hj,hcx,hkx⟩:=hrel;have HFR:=hid hfr;have HJ1:=hid hj;have HCX:=hid hcx;have HKX:=hid hkx;have HSZ:=hid hkx.size;clear hfr hj hcx hkx;by_cases hlt:n<fs.length
  ·obtain⟨g,o,cap,u,hv,hg,hS,d0,d1,hu,hus⟩:=(HR.out.kept HKX.out).atSf n hlt;simp only[Value.slice.injEq,true_and]at hv;obtain⟨rfl,rfl⟩:=hv;obtain⟨au,cu,rfl,-⟩:=id hu;have HU:=hid hu;have HUS:=hid hus;clear hu hus hS;obtain⟨f,hf⟩ : ∃ f,f=fs[n]:=⟨_,rfl⟩
   rw[<-hf]at d0 d1 HU HUS;have hfm:f∈fs:=by rw[hf];exact List.getElem_mem _
   have HF:=hid hf;have HFM:=hid hfm;clear hf hfm;go_upto_region 4 with fail;have hgb:=World.alloc_heap_new wr (.cells #[.int .u8 ((f.1.toNat:Nat):Int),.slice au f.2.length cu] 80);have hnb:=heap_alloc_new wr (.cells #[.int .u8 ((f.1.toNat:Nat):Int),.slice au f.2.length cu] 80);have hxb:Ext wr (wr.alloc (.cells #[.int .u8 ((f.1.toNat:Nat):Int),.slice au f.2.length cu] 80)):=(Ext.refl _).alloc _;clear hgb;generalize (wr.alloc (.cells #[.int .u8 ((f.1.toNat:Nat):Int),.slice au f.2.length cu] 80))=w2 at hnb hxb ⊢;obtain⟨gb,hgb⟩ : ∃ gb,gb=wr.heap.size:=⟨_,rfl⟩
   rw[<-hgb]at hnb ⊢;have e0:w2.cell? ⟨gb,0,none⟩=some (.int .u8 ((f.1.toNat:Nat):Int)):=(cr 0 hnb)
   have e1:w2.cell? ⟨gb,1,none⟩=some (.slice au f.2.length cu):=(cr 1 hnb)
   have HXB:=hid hxb;clear hnb hxb d0 d1 hgb;refine(wpIn_wide (n:=dep)).1 ?_;gi_wp2
   refine⟨trivial,fun h=>by simp[Fence.wide]at h,(callsIn_wide.2 (zpu w2 f.1 _ f.2 (HU.out.ext HXB.out) (HD.out f HFM.out))).mono ?_⟩;rintro e w3 ⟨v3,rfl,ho3,hx3⟩;have HX3:=hid (HXB.out.trans hx3);have hz:=HSZ.out;have hz2:=HXB.out.size;obtain⟨fn,tmps,assign,body,hy,hR⟩:=HY.out pre ((n:Int),v3,f) C' w3 (HJ.out _ _ _ _ HJ1.out (HX3.out.keep _)) (j4 ho3 (by omega)) (by
    unfold OkF;rw[zdz,HFR.out];have h1:fs.take n++[f]=fs.take (n+1):=by rw[List.take_succ_eq_append_getElem hlt,HF.out]
    show fs.take n++[f] <+: fs;rw[h1];exact List.take_prefix _ _)
   simp only[encF]at hy;clear ho3 hx3 e0 e1 hz hz2;gi_wp2
   refine⟨fun h=>by simp[Fence.wide]at h,hR.mono ?_⟩;clear hR hy;rintro e W' (⟨rfl,C2,hJ3,hg1,hg2⟩|⟨rfl,C2,hJx3,hg1,hg2⟩)
   ·have HJ3:=hid hJ3;have HG1:=hid hg1;have HG2:=hid hg2;clear hJ3 hg1 hg2;gi_wp2
    go_wp2_with fail;go_roundw;case rel=>
     have hz3:=HX3.out.size;have hzr:=HSZ.out;refine⟨n+1,pre++[((n:Int),v3,f)],C2,by go_num,by omega,?_,HJ3.out,fun j hj=>⟨fun h=>?_,(HG2.out j hj).2⟩,(HKX.out.trans (HX3.out.keep _)).trans (HG1.out.mono fun j hj _ h=>(HCX.out j h).1 hj)⟩
     ·rw[zdz,HFR.out,List.take_succ_eq_append_getElem hlt,HF.out]
     ·rcases (HG2.out j hj).1 with h1|h1
      ·exact(HCX.out j h1).1 h
      ·have:=HSL.out j h;omega
    case measure=>simp[intOf];omega
   ·have HJX3:=hid hJx3;clear hJx3 hg1 hg2;gi_wp2
    go_wp2_with fail;refine bodyPost_ret (results_none rfl _ _ _) rfl ?_;refine⟨⟨_,rfl⟩,.inr ⟨pre++[((n:Int),v3,f)],C2,?_,HJX3.out⟩⟩;unfold OkF;rw[zdz,HFR.out];have h1:fs.take n++[f]=fs.take (n+1):=by rw[List.take_succ_eq_append_getElem hlt,HF.out]
    show fs.take n++[f] <+: fs;rw[h1];exact List.take_prefix _ _
  ·have hall:frs pre=fs:=by rw[HFR.out,List.take_of_length_le (by omega)]
   have HALL:=hid hall;clear hall;go_wp2_with fail;go_end0;exact⟨⟨_,rfl⟩,.inl ⟨pre,C',HALL.out,HJ1.out⟩⟩
end
section
open Go.RowKit
theorem zwf (w:World) (g:Nat) (ρ:Nat->Option Rol) (ns nk:Nat) (x:Ix) (h:IxAt w g ρ ns nk x) (hall:x.all.length<=1000000) :
  Calls Tryz.prog 36 #[.pointer (some ⟨g,0,none⟩)] w fun e w'=>e = .returned (.int .i64 (x.all.length:Int))/\w=w':=by
 obtain⟨va,gs,gk,ms,mk,h⟩:=h;obtain⟨aa,ac,rfl⟩:=h.all.slice;have c0:=h.c0;clear h;go_enter Tryz.func36,Tryz.ntmps36;go_wp2_with fail;go_ret;exact⟨rfl,rfl⟩
end
end Go.Proofs.YtnadlnmclameiaaGreatDoor
