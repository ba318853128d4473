/- part 19 -/
import Derived.Test.YtnadlnmclameiaaGreatDoorTS18
import Derived.Outline
import Derived.BigRegion
import Derived.RegionTactic
set_option maxRecDepth 100000
set_option maxHeartbeats 8000000
set_option linter.all false
namespace Go.Proofs.YtnadlnmclameiaaGreatDoor
def nb (n:Int):Int:=(n+511) / 512
def ql (s n:Int):Int × Int:=if n<0 then (0,1) else if 32768-s<n then (0,60) else (nb (s+n)-nb s,0)
def zci (r:Run) (need:Int):Bool:=decide (r.1<0\/512<=r.1\/r.2<1\/512-r.1<r.2\/need<r.2)
def xx:List Run->Int->Bool
 | [],need=>decide (need=0)
 | r :: l,need=> !zci r need && xx l (need-r.2)
def extF (s n:Int) (l:List Run):Int:=if (ql s n).2≠0 then (ql s n).2 else if xx l (ql s n).1 then 0 else 1
structure NodeOk (s:Int) (L:List Int):Prop where
 lo:0<=s
 hi:s<=32768
 len:(L.length:Int)=nb s
 blk : ∀ b∈L,0<=b/\b<512
theorem NodeOk.empty:NodeOk 0 []:=⟨by omega,by omega,rfl,by simp⟩
theorem zvl {a b:Int} (h:a<=b):nb a<=nb b:=by unfold nb;omega
theorem zn8 {a:Int} (h:0<=a):0<=nb a:=by unfold nb;omega
theorem zji {a:Int} (h:a<=32768):nb a<=64:=by unfold nb;omega
theorem NodeOk.len64 {s:Int}{L:List Int} (h:NodeOk s L):L.length<=64:=by have:=zji h.hi;have:=h.len;omega
theorem zoi : ∀ (l:List Run) (need:Int),xx l need=true->(∀ r∈l,0<=r.1/\1<=r.2/\r.1+r.2<=512)/\((zm l).length:Int)=need:=by
 intro l;induction l with
 | nil=>intro need h;simp[xx]at h;simp[zm,h]
 | cons r l ih=>
  intro need h;simp only[xx,zci,Bool.and_eq_true,Bool.not_eq_true',decide_eq_false_iff_not]at h;obtain⟨h1,h2⟩:=h;obtain⟨i1,i2⟩:=ih _ h2;refine⟨fun x hx=>?_,?_⟩
  ·rcases List.mem_cons.1 hx with rfl|hx
   ·omega
   ·exact i1 x hx
  ·obtain⟨f,n⟩:=r;rw[za2,List.length_append,xo];dsimp only at h1 i2;omega
theorem zxd {s n:Int}{L:List Int}{l:List Run} (h:NodeOk s L) (he:extF s n l=0):NodeOk (s+n) (L++zm l)/\0<=n/\n<=32768-s/\xx l (nb (s+n)-nb s)=true:=by
 unfold extF ql at he;by_cases h1:n<0
 ·rw[if_pos h1]at he;simp at he
 rw[if_neg h1]at he;by_cases h2:32768-s<n
 ·rw[if_pos h2]at he;simp at he
 rw[if_neg h2]at he;simp only[ne_eq,not_true_eq_false,if_false]at he;by_cases h3:xx l (nb (s+n)-nb s)=true
 ·obtain⟨e1,e2⟩:=zoi l _ h3;have hl:=h.len;have h0:=h.lo;refine⟨⟨by omega,by omega,by rw[List.length_append];omega,fun b hb=>?_⟩,by omega,by omega,h3⟩;rcases List.mem_append.1 hb with hb|hb
  ·exact h.blk b hb
  ·obtain⟨r,hr,h4,h5⟩:=zbq.1 hb;have:=e1 r hr;omega
 ·rw[if_neg h3]at he;simp at he
theorem zoj (l:List Run) : ∀ (k:Int),0<=k->(∀ r∈l,1<=r.2)->∀ (r:Run) (l':List Run),l=r :: l'->
  (k<r.2->(zm l)[k.toNat]? = some (r.1+k))/\(r.2<=k->(zm l)[k.toNat]? = (zm l')[(k-r.2).toNat]?):=by
 intro k hk h r l' e;subst e;have hr:=h r (by simp);obtain⟨f,n⟩:=r;dsimp only at hr ⊢;rw[za2];refine⟨fun hlt=>?_,fun hge=>?_⟩
 ·rw[List.getElem?_append_left (by rw[xo];omega)];simp only[zm,List.flatMap_cons,List.flatMap_nil,List.append_nil,List.getElem?_map];rw[List.getElem?_range (by omega)];simp;omega
 ·rw[List.getElem?_append_right (by rw[xo];omega),xo];congr 1
  omega
section
open Go.RowKit
theorem zu5 {a b:Int} (h:a=b):Ending.returned (.int .i64 a) = .returned (.int .i64 b):=by rw[h]
theorem zdt {P:Program}{f:FuncId}{args:Array Value}{w:World}{n:Nat}{v:Value}
  (h:Calls P f args (w.drewN n) fun e w'=>e = .returned v/\w.drewN n=w'):Calls P f args (w.drewN n) fun e w''=>e = .returned v/\∃ m,w''=w.drewN m:=
 h.mono fun _ _ ⟨he,hm⟩=>⟨he,n,hm.symm⟩
theorem zhk (w:World) (v:Value) (xs:List Run) (h:RdR w v xs) (hn:xs=[]->v = .slice none 0 0) (hl:xs.length<=1000000) :
  Calls Tryz.prog 157 #[v] w fun e w'=>∃ v',e = .returned v'/\OwnR w' w.heap.size v' xs/\(xs=[]->v' = .slice none 0 0)/\Below w.heap.size w w':=by
 have hnil:=fun w=>Lib.run_eql_slice_nil (P:=Tryz.prog) w;by_cases h0:xs=[]
 ·obtain rfl:=hn h0;subst h0;clear hn h;go_enter Tryz.func157,Tryz.ntmps157;go_wp2_with fail;go_ret;exact⟨_,rfl,OwnR.nil _ _,fun _=>rfl,Below.refl _ _⟩
 ·have hp:0<xs.length:=List.length_pos_iff.2 h0;obtain⟨g,o,cap,rfl,hg,-,-⟩:=h.at 0 hp;have H:=hid h;clear h hn;go_enter Tryz.func157,Tryz.ntmps157;have HA:OwnR (w.alloc (.cells #[] 209)) w.heap.size (.slice (some ⟨w.heap.size,0,none⟩) 0 0) []:=World.ownsRow_made w #[] 0 (Nat.le_refl _) (by simp[maxLen]) rfl;have HS:=H.out.ext ((Ext.refl w).alloc (.cells #[] 209));go_wp2_with (at_builtin;go_must (refine zbw rfl _ _ _ rfl w.heap.size _ [] rfl HA _ xs rfl (zxw HS) (by simp;omega) (by simp) ?_;intro v' w' k1 k4 k5 k6;rw[List.nil_append]at k1))
  go_ret;exact⟨_,rfl,k1,fun e=>absurd e h0,(((Ext.refl w).alloc _).step k5 (Nat.le_refl _))⟩
def NodeAt (w:World) (g:Nat) (q:Option Nat) (s:Int) (L:List Int):Prop:=
 ∃ vr,w.heap[g]? = some (.cells #[.int .i64 s,vr] 232 (0,0))/\RdR w vr (z8 L)/\vr.ownBlock=q/\q≠some g/\(∀ k,q=some k->k<w.heap.size)/\(L=[]->vr = .slice none 0 0)
theorem NodeAt.keep {w w':World}{g:Nat}{q:Option Nat}{s:Int}{L:List Int}{S:Nat->Prop} (h:NodeAt w g q s L) (hk:Keep S w w') (hg:S g) (hq : ∀ k,q=some k->S k):NodeAt w' g q s L:=by
 obtain⟨vr,h1,h2,h3,h4,h5,h6⟩:=h;have hl:g<w.heap.size:=(blt h1)
 exact⟨vr,by rw[hk.block g hg hl];exact h1,h2.keep hk (fun _ k hb=>hq k (by rw[<-h3];exact hb)),h3,h4,fun k hb=>Nat.lt_of_lt_of_le (h5 k hb) hk.size,h6⟩
theorem NodeAt.ext {w w':World}{g:Nat}{q:Option Nat}{s:Int}{L:List Int} (h:NodeAt w g q s L) (hx:Ext w w'):NodeAt w' g q s L:=h.keep (hx.keep (fun _=>True)) trivial fun _ _=>trivial
theorem NodeAt.lt {w:World}{g:Nat}{q:Option Nat}{s:Int}{L:List Int} (h:NodeAt w g q s L):g<w.heap.size:=by
 obtain⟨vr,h1,_⟩:=h;exact(blt h1)
theorem NodeAt.cells {w:World}{g:Nat}{q:Option Nat}{s:Int}{L:List Int} (h:NodeAt w g q s L) :
  ∃ a cap,w.cell? ⟨g,0,none⟩=some (.int .i64 s)/\w.cell? ⟨g,1,none⟩=some (.slice a (z8 L).length cap)/\RdR w (.slice a (z8 L).length cap) (z8 L)/\w.frozen? ⟨g,0,none⟩=false/\w.frozen? ⟨g,1,none⟩=false/\(L=[]->a=none/\cap=0)/\cap<=9223372036854775807:=by
 obtain⟨vr,h1,h2,h3,h4,h5,h6⟩:=h;obtain⟨a,cap,rfl,hc1,hc2⟩:=h2.slice;refine⟨a,cap,by rw[cell_of_row _ _ _ _ _ _ h1];rfl,by rw[cell_of_row _ _ _ _ _ _ h1];rfl,h2,?_,?_,fun e=>?_,hc2⟩
 ·simp[World.frozen?,h1]
 ·simp[World.frozen?,h1]
 ·have:=h6 e;simp only[Value.slice.injEq]at this;exact⟨this.1,this.2.2⟩
theorem za0 (w:World):Calls Tryz.prog 86 #[] w fun e w'=>∃ g,e = .returned (.pointer (some ⟨g,0,none⟩))/\NodeAt w' g none 0 []/\w.heap.size<=g/\Below w.heap.size w w':=by
 go_enter Tryz.func86,Tryz.ntmps86;go_wp2_with fail;go_ret;exact⟨_,rfl,⟨.slice none 0 0,heap_alloc_new _ _,RdR.nil _,rfl,by simp,by simp,fun _=>rfl⟩,Nat.le_refl _,(Below.refl _ _).alloc (Nat.le_refl _) _⟩
theorem zg9 (w:World) (n:Int) (h0:0<=n) (h1:n<=4611686018427387904):Calls Tryz.prog 138 #[.int .i64 n] w fun e w'=>e = .returned (.int .i64 (nb n))/\w=w':=by
 go_enter Tryz.func138,Tryz.ntmps138;go_wp2_with fail;go_ret;exact⟨zu5 (by unfold nb;omega),rfl⟩
theorem zaf (w:World) (g:Nat) (q:Option Nat) (s:Int) (L:List Int) (h:NodeAt w g q s L):Calls Tryz.prog 80 #[.pointer (some ⟨g,0,none⟩)] w fun e w'=>e = .returned (.int .i64 s)/\w=w':=by
 obtain⟨a,cap,c0,c1,-⟩:=h.cells;go_enter Tryz.func80,Tryz.ntmps80;go_wp2_with fail;go_ret;exact⟨rfl,rfl⟩
theorem zeq (w:World) (g:Nat) (q:Option Nat) (s:Int) (L:List Int) (h:NodeAt w g q s L) (hl:L.length<=1000000):Calls Tryz.prog 113 #[.pointer (some ⟨g,0,none⟩)] w fun e w'=>∃ v',e = .returned v'/\OwnR w' w.heap.size v' (z8 L)/\(L=[]->v' = .slice none 0 0)/\Below w.heap.size w w':=by
 obtain⟨a,cap,c0,c1,hr,-,-,hn,hc⟩:=h.cells;have hwl:=bo L;have HN:=hid (show z8 L=[]->Value.slice a (z8 L).length cap = .slice none 0 0 from fun e=>by
  obtain⟨rfl,rfl⟩:=hn ((bj L).1 e);rw[e];rfl)
 have HI:=hid (bj L);clear hn h;generalize z8 L=xs at*;go_enter Tryz.func113,Tryz.ntmps113;go_wp2_with fail;refine(zhk w _ xs hr HN.out (by omega)).mono ?_;rintro e w' ⟨v',rfl,h1,h2,h3⟩;have H2:=hid h2;clear h2;go_wp2_with fail;go_ret;exact⟨_,rfl,h1,fun e=>H2.out (HI.out.2 e),h3⟩
theorem zcd (w:World) (g:Nat) (q:Option Nat) (s n:Int) (L:List Int) (h:NodeAt w g q s L) (hs:0<=s/\s<=32768) (hn : -9223372036854775808<=n/\n<=9223372036854775807) :
  Calls Tryz.prog 89 #[.pointer (some ⟨g,0,none⟩),.int .i64 n] w fun e w'=>e = .returned (.tuple #[.int .i64 (ql s n).1,.int .i64 (ql s n).2])/\Below w.heap.size w w':=by
 obtain⟨a,cap,c0,c1,-⟩:=h.cells;obtain⟨hs1,hs2⟩:=hs;obtain⟨hn1,hn2⟩:=hn;by_cases hneg:n<0
 ·have HF:=hid (show ql s n=(0,1) by unfold ql;rw[if_pos hneg]);go_enter Tryz.func89,Tryz.ntmps89;go_wp2_with fail;go_ret2;exact⟨by rw[HF.out];rfl,Below.refl _ _⟩
 ·by_cases hbig:32768-s<n
  ·have HF:=hid (show ql s n=(0,60) by unfold ql;rw[if_neg hneg,if_pos hbig]);go_enter Tryz.func89,Tryz.ntmps89;go_wp2_with fail;go_ret2;exact⟨by rw[HF.out];rfl,Below.refl _ _⟩
  ·have HF:=hid (show ql s n=(nb (s+n)-nb s,0) by unfold ql;rw[if_neg hneg,if_neg hbig]);have b1:=zn8 hs1;have b2:=zji hs2;have b3:=zn8 (show 0<=s+n by omega);have b4:=zji (show s+n<=32768 by omega);go_enter Tryz.func89,Tryz.ntmps89;have e1:IntKind.i64.wrap (s+n)=s+n:=IntWalk.i64_in _ (by omega);have e2:IntKind.i64.wrap (nb (s+n)-nb s)=nb (s+n)-nb s:=IntWalk.i64_in _ (by omega);have hsn:0<=s+n:=by omega
   have hsn2:s+n<=4611686018427387904:=by omega
   have hs3:s<=4611686018427387904:=by omega
   go_wp2_with fail;go_quiet ((go_at_call 138;first|exact zdt (zg9 _ _ hsn hsn2)|exact zdt (zg9 _ _ hs1 hs3)));clear e1 e2;go_wp2_with fail;go_ret2;exact⟨by rw[HF.out];rfl,below_drewN (Below.refl _ _) _⟩
def zxl (w:World) (base:Nat) (v:Value) (ys:List Run) (e:Ending) (w':World):Prop:=
 ∃ v',e = .returned v'/\OwnR w' base v' ys/\w.grownBy w' v.ownBlock/\(∀ k,v'.ownBlock=some k->v.ownBlock=some k\/w.heap.size<=k)
theorem zd9 {a b c:World}{row:Option Nat} (h:a.grownBy b row) (k:b.grownBy c row):a.grownBy c row:=
 ⟨k.os.trans h.os,k.tape.trans h.tape,k.output.trans h.output,Nat.le_trans h.size k.size,fun i hi hne=>(k.block i (Nat.lt_of_lt_of_le hi h.size) hne).trans (h.block i hi hne)⟩
theorem zdw {a w:World}{row:Option Nat} (h:a.grownBy w row) (n:Nat):a.grownBy (w.drewN n) row:=⟨h.os,h.tape,h.output,h.size,h.block⟩
theorem zgx {a w:World}{row:Option Nat} (h:a.grownBy w row) (o:Obj):a.grownBy (w.alloc o) row:=
 ⟨h.os,h.tape,h.output,Nat.le_trans h.size (by simp),fun i hi hne=>(Below.heap_alloc w o i (Nat.lt_of_lt_of_le hi h.size)).trans (h.block i hi hne)⟩
theorem zg0 {a b:World}{g:Nat} (h:a.grownBy b (some g)) (o:Nat) (u:Value):a.grownBy (b.setCell ⟨g,o,none⟩ u) (some g):=
 ⟨h.os,h.tape,h.output,by simpa[World.setCell] using h.size,fun i hi hne=>(Below.heap_setCell b ⟨g,o,none⟩ u i (fun e=>hne (by rw[e]))).trans (h.block i hi hne)⟩
theorem zva (w:World) (base:Nat) (v:Value) (xs:List Run) (r:Run) (h:OwnR w base v xs) (hb:base<=w.heap.size) (hl:xs.length<=1000000) (hx : ∀ x∈xs,(-1000000<=x.1/\x.1<=1000000)/\ -1000000<=x.2/\x.2<=1000000) (hr:(-1000000<=r.1/\r.1<=1000000)/\ -1000000<=r.2/\r.2<=1000000) :
  Calls Tryz.prog 141 #[v,.agg #[.int .i64 r.1,.int .i64 r.2]] w (zxl w base v (putR xs r)):=by
 obtain⟨rf,rl⟩:=r;dsimp only at hr ⊢;obtain⟨⟨hr1,hr2⟩,hr3,hr4⟩:=hr;have HW:=h.ext ((Ext.refl w).alloc (.cells #[.int .i64 rf,.int .i64 rl] 209));rcases xr xs with rfl|⟨ys,k,rfl⟩
 ·obtain⟨a,cap,rfl,hcap,hcap2⟩:=h.rd.slice;have HH:=hid h;have HHW:=hid HW;clear h hx HW;have g1:decide ((0:Int)-1≥0)=false:=by decide
  go_enter Tryz.func141,Tryz.ntmps141;go_wp2_with fail;go_quiet (fail);have HB2:=hid (show w.grownBy ((((w.alloc (.cells #[.int .i64 rf,.int .i64 rl] 209)).drewN nq)).alloc (.cells #[.int .i64 rf,.int .i64 rl] 209)) (Value.slice a 0 cap).ownBlock from zgx (zdw (World.grownBy_alloc w _ _) nq) _);have HA:=hid (HHW.out.ext (((Ext.refl _).drewN nq).alloc (.cells #[.int .i64 rf,.int .i64 rl] 209)));have HS:=hid (zc9 ((w.alloc (.cells #[.int .i64 rf,.int .i64 rl] 209)).drewN nq) (w.heap.size+1) (rf,rl) (by simp));clear HHW HH;go_wp2_with (at_builtin;go_must (refine zbw rfl _ _ _ rfl base (.slice a 0 cap) [] rfl HA.out _ [(rf,rl)] rfl HS.out (by simp) (by simp;omega) ?_;intro v' w' k1 k4 k5 k6))
  go_ret;exact⟨_,rfl,k1,zd9 HB2.out k4,fun k hk=>by rcases k6 k hk with h|h;exact .inl h;exact .inr (by simp at h;omega)⟩
 ·have hn:(ys++[k]).length=ys.length+1:=by simp
  obtain⟨g,cap,rfl,hbg,hg,c0',c1',f0',f1'⟩:=h.at ys.length (by omega);have ek:(ys++[k])[ys.length]'(by omega)=k:=by simp
  rw[ek]at c0' c1';have hk:=hx k (by simp);obtain⟨⟨hk1,hk2⟩,hk3,hk4⟩:=hk;obtain⟨kf,kl⟩:=k;dsimp only at c0' c1' hk1 hk2 hk3 hk4;have hgw:=(h.lt g rfl).2;have HH:=hid h;have HHW:=hid HW;rw[hn]at HH HHW ⊢;have hys:ys.length<=1000000:=by omega
  have hput:=vh ys (kf,kl) (rf,rl);dsimp only at hput;have HP:=hid hput;have HN:=hid hn;clear h hx HW ek hn hput hl hg;generalize hyl:ys.length=m at*;have HM:=hid hyl;clear hyl;have e1:IntKind.i64.wrap (kf+kl)=kf+kl:=IntWalk.i64_in _ (by omega);have e2:IntKind.i64.wrap (kl+rl)=kl+rl:=IntWalk.i64_in _ (by omega);have hgne : ¬ w.heap.size=g:=by omega
  have hgne2 : ¬ g=w.heap.size:=by omega
  have i1:(m:Int)<((m+1:Nat):Int):=by omega
  have i2:(0:Int)<=(m:Int):=by omega
  by_cases hm:kf+kl=rf
  ·have t1:((kf+kl:Int) == rf)=true:=by simpa using hm
   go_enter Tryz.func141,Tryz.ntmps141;go_wp2_with fail;go_quiet (fail);go_wp2_with fail;go_region;all_goals
    go_wp2_with fail;go_ret;refine⟨_,rfl,?_,zg0 (zdw (World.grownBy_alloc w _ _) _) _ _,fun k hk=>.inl hk⟩;obtain rfl:=HM.out;have h1:=OwnR.setLen (HHW.out.ext ((Ext.refl _).drewN (nq+1))) ys.length (by simp) (kl+rl) HN.out.symm;rw[HP.out,if_pos hm];have e:(ys++[(kf,kl)]).set ys.length (((ys++[(kf,kl)])[ys.length]'(by simp)).1,kl+rl)=ys++[(kf,kl+rl)]:=by simp
    rw[e]at h1;exact h1
  ·have t1:((kf+kl:Int) == rf)=false:=by simpa using hm
   go_enter Tryz.func141,Tryz.ntmps141;go_wp2_with fail;go_quiet (fail);have HB2:=hid (show w.grownBy ((((w.alloc (.cells #[.int .i64 rf,.int .i64 rl] 209)).drewN nq)).alloc (.cells #[.int .i64 rf,.int .i64 rl] 209)) (Value.slice (some ⟨g,0,none⟩) (m+1) cap).ownBlock from zgx (zdw (World.grownBy_alloc w _ _) nq) _);have HA:=hid (HHW.out.ext (((Ext.refl _).drewN nq).alloc (.cells #[.int .i64 rf,.int .i64 rl] 209)));have HS:=hid (zc9 ((w.alloc (.cells #[.int .i64 rf,.int .i64 rl] 209)).drewN nq) (w.heap.size+1) (rf,rl) (by simp));have hl2:(ys++[(kf,kl)]).length<=1000001:=by rw[HN.out];omega
   clear HHW HH t1 e1 e2;go_wp2_with (at_builtin;go_must (refine zbw rfl _ _ _ rfl base (.slice (some ⟨g,0,none⟩) (m+1) cap) (ys++[(kf,kl)]) rfl HA.out _ [(rf,rl)] rfl HS.out (by simp only[List.length_singleton];omega) (by simp;omega) ?_;intro v' w' k1 k4 k5 k6))
   go_ret;exact⟨_,rfl,by rw[HP.out,if_neg hm];exact k1,zd9 HB2.out k4,fun k hk=>by rcases k6 k hk with h|h;exact .inl h;exact .inr (by simp at h;omega)⟩
end
section
open Go.RowKit
theorem zgy (w:World) (g:Nat) (q:Option Nat) (s n b:Int) (L:List Int) (h:NodeAt w g q s L) (ho:NodeOk s L) (h0:0<=n) (h1:n<s) (hb:L[(n / 512).toNat]? = some b) :
  Calls Tryz.prog 92 #[.pointer (some ⟨g,0,none⟩),.int .i64 n] w fun e w'=>e = .returned (.tuple #[.int .i64 b,.int .i64 (n % 512),.int .i64 0])/\Below w.heap.size w w':=by
 have H:=hid h;have hs2:=ho.hi;have hl64:=ho.len64;have hwl:=bo L;have HB:=hid (zdk ho.blk);obtain⟨na,nc,c0,c1,hr,-,-,-,hnc⟩:=h.cells;have HR:=hid hr;have HEW:=hid (vy L);have HBB:=hid hb;clear h hr hb ho;generalize z8 L=X at*;go_enter Tryz.func92,Tryz.ntmps92;go_wp2_with fail;go_step3;go_wp2_with fail;go_step3;go_wp2_with fail;go_loopw [7,32] (fun u7 u32 wr=>∃ i:Nat,∃ k:Int,i<=X.length/\u32 = .int .i64 i/\u7 = .int .i64 k/\0<=k/\k<=64/\(zm (X.drop i))[k.toNat]? = some b/\Ext w wr) (fun _ i _=>X.length-(intOf i).toNat);case atStart=>exact⟨0,n / 512,by omega,rfl,rfl,by omega,by omega,by rw[List.drop_zero,HEW.out];exact HBB.out,by(exact Ext.xt)⟩
 case round=>
  obtain⟨i,k,hi,rfl,rfl,hk0,hk1,hget,hx⟩:=hrel;have HG:=hid hget;have hin:=HB.out;clear hget;by_cases hlt:i<X.length
  ·obtain⟨gl,ol,cl,e,hgl,d0,d1⟩:=(HR.out.ext hx).at i hlt;simp only[Value.slice.injEq]at e;obtain⟨rfl,-,rfl⟩:=e;have hri:=hin _ (List.getElem_mem hlt);have hlens : ∀ r∈X.drop i,1<=r.2:=fun r hr=>(hin r (List.mem_of_mem_drop hr)).2.1;have hgx:=zoj (X.drop i) k hk0 hlens X[i] (X.drop (i+1)) (List.drop_eq_getElem_cons hlt);generalize X[i]=r at d0 d1 hri hgx;obtain⟨rf,rl⟩:=r;dsimp only at d0 d1 hri hgx;obtain⟨r1,r2,r3⟩:=hri;rw[HG.out]at hgx;have HGX:=hid hgx;clear hgx hlens hin;by_cases hkl:k<rl
   ·have hbe:b=rf+k:=by have:=HGX.out.1 hkl;simpa using this
    have HBE:=hid hbe;clear hbe;go_wp2_with fail;rw[Exit.noGoto_ret];go_ret3;exact⟨by rw[HBE.out];rfl,by show Ext _ _;(exact Ext.xt)⟩
   ·go_wp2_with fail;go_roundw;case rel=>exact⟨i+1,k-rl,by omega,by go_num,rfl,by omega,by omega,by rw[<-HGX.out.2 (by omega)],by(exact Ext.xt)⟩
    case measure=>simp[intOf];omega
  ·exfalso;have:=HG.out;rw[List.drop_of_length_le (by omega)]at this;simp[zm]at this
def runB (r:Run):List UInt8:=putU r.1.toNat++putU r.2.toNat
def xu (s:Int) (L:List Int):List UInt8:=putU s.toNat++putU (z8 L).length++(z8 L).flatMap runB
theorem zr7 (r:Run):(runB r).length<=20:=by
 have:=zq r.1.toNat;have:=zq r.2.toNat;unfold runB;rw[List.length_append];omega
theorem zib (l:List Run):(l.flatMap runB).length<=20*l.length:=by
 induction l with
 | nil=>simp
 | cons r l ih=>have:=zr7 r;simp only[List.flatMap_cons,List.length_append,List.length_cons];omega
theorem zi7 (w:World) (g:Nat) (q:Option Nat) (s:Int) (L:List Int) (h:NodeAt w g q s L) (ho:NodeOk s L) :
  Calls Tryz.prog 134 #[.pointer (some ⟨g,0,none⟩)] w (NewB (xu s L) w):=by
 have H:=hid h;have hs1:=ho.lo;have hs2:=ho.hi;have hl64:=ho.len64;have hwl:=bo L;have HB:=hid (zdk ho.blk);obtain⟨na,nc,c0,c1,hr,-,-,-,hnc⟩:=h.cells;have HR:=hid hr;have HNB:Hid (xu s L=putU s.toNat++putU (z8 L).length++(z8 L).flatMap runB):=hid rfl;obtain⟨sn,rfl⟩:=Int.eq_ofNat_of_zero_le hs1;rw[Int.toNat_natCast]at HNB;have hpl:=zq sn;have hpl2:=zq (z8 L).length;clear h hr ho;generalize z8 L=X at*;go_enter Tryz.func134,Tryz.ntmps134;go_wp2_with fail;refine Calls.mono (yi _ _ ?_ _ ?_ ?_ ?_) ?_;rotate_left
 (first|(with_reducible assumption)|(exact RdB.nil _)|(apply RdB.ext;(with_reducible assumption);(exact Ext.xt)))
 (first|omega|(simp only[List.length_append,List.length_cons,List.length_nil];omega)|omega)
 (first|omega|(simp only[List.length_append,List.length_cons,List.length_nil];omega)|omega)
 (rintro e w' ⟨v',rfl,ho',hb'⟩;have hr':=zk ho';obtain⟨a',c',rfl⟩:=OwnB.slice ho';(try simp only[List.nil_append,List.length_append,List.length_cons,List.length_nil,Nat.zero_add,Nat.reduceAdd]at ho' hr');have hx':=Ext.of hb';clear hb')
 have c1':=Ext.cellS hx' c1;go_wp2_with fail;refine Calls.mono (yi _ _ ?_ _ ?_ ?_ ?_) ?_;rotate_left
 (first|(with_reducible assumption)|(exact RdB.nil _)|(apply RdB.ext;(with_reducible assumption);(exact Ext.xt)))
 (first|omega|(simp only[List.length_append,List.length_cons,List.length_nil];omega)|omega)
 (first|omega|(simp only[List.length_append,List.length_cons,List.length_nil];omega)|omega)
 (rintro e w' ⟨v',rfl,ho',hb'⟩;have hr':=zk ho';obtain⟨a',c',rfl⟩:=OwnB.slice ho';(try simp only[List.nil_append,List.length_append,List.length_cons,List.length_nil,Nat.zero_add,Nat.reduceAdd]at ho' hr');have hx':=Ext.of hb';clear hb')
 have hX:=(show Ext w w' by(exact Ext.xt))
 have c1'':=Ext.cellS hX c1;go_wp2_with fail;clear c1' c1'';go_loopw [3,27] (fun u3 u27 wr=>∃ i:Nat,i<=X.length/\u27 = .int .i64 i/\OwnB wr w.heap.size u3 (putU sn++putU X.length++(X.take i).flatMap runB)/\Ext w wr) (fun _ i _=>X.length-(intOf i).toNat);case atStart=>exact⟨0,by omega,rfl,by simpa using OwnB.low ho' (Ext.size (by assumption)),hX⟩
 case round=>
  obtain⟨i,hi,rfl,ho',hx'⟩:=hrel;have hr':=zk ho';have hin:=HB.out;have hbl:=zib (X.take i);rw[List.length_take,Nat.min_eq_left hi]at hbl;have hrl:(putU sn++putU X.length++(X.take i).flatMap runB).length<=2000:=by
   rw[List.length_append,List.length_append];omega
  by_cases hlt:i<X.length
  ·obtain⟨gl,ol,cl,e,hgl,d0,d1⟩:=(HR.out.ext hx').at i hlt;simp only[Value.slice.injEq]at e;obtain⟨rfl,-,rfl⟩:=e;have hri:=hin _ (List.getElem_mem hlt);have htk:=List.take_succ_eq_append_getElem hlt;have hbs:(X.take (i+1)).flatMap runB=(X.take i).flatMap runB++(putU X[i].1.toNat++putU X[i].2.toNat):=by
    rw[htk,List.flatMap_append];simp[runB]
   generalize X[i]=r at d0 d1 hri hbs;obtain⟨rf,rl⟩:=r;dsimp only at d0 d1 hri hbs;obtain⟨r1,r2,r3⟩:=hri;obtain⟨rf,rfl⟩:=Int.eq_ofNat_of_zero_le r1;obtain⟨rl,rfl⟩:=Int.eq_ofNat_of_zero_le (show 0<=rl by omega);rw[Int.toNat_natCast,Int.toNat_natCast]at hbs;have hpf:=zq rf;have HBS:=hid hbs;clear hin htk hbs;generalize (X.take i).flatMap runB=Y at*;have hrf:rf<=512:=by omega
   have hrl2:rl<=512:=by omega
   go_wp2_with fail;refine Calls.mono (yi _ _ ?_ rf ?_ ?_ ?_) ?_;rotate_left
   (first|(with_reducible assumption)|(exact RdB.nil _)|(apply RdB.ext;(with_reducible assumption);(exact Ext.xt)))
   omega;omega;rintro e w5 ⟨v5,rfl,ho5,hb5⟩;have hx5:=Ext.of hb5;have b1:w5.cell? ⟨wr.heap.size,1,none⟩=some (.int .i64 (rl:Int)):=Ext.cellS hx5 (by simp[go_sem]);have hr5:=zk ho5;clear hb5 ho5;go_wp2_with fail;refine Calls.mono (yi _ _ ?_ rl ?_ ?_ ?_) ?_;rotate_left
   (first|(with_reducible assumption)|(exact RdB.nil _)|(apply RdB.ext;(with_reducible assumption);(exact Ext.xt)))
   omega;(rw[List.length_append];omega);rintro e w6 ⟨v6,rfl,ho6,hb6⟩;have hx6:=Ext.of hb6;have HO6:=hid ho6;clear hb6 ho6;have hs56:=hx5.size;have hsx:=hx'.size;have hs56':wr.heap.size+1<=w5.heap.size:=by simpa using hs56
   go_wp2_with fail;go_roundw;case rel=>exact⟨i+1,by omega,by go_num,by rw[HBS.out];simpa[List.append_assoc] using OwnB.low HO6.out (show w.heap.size<=w5.heap.size by omega),by(exact Ext.xt)⟩
   case measure=>simp[intOf];omega
  ·obtain rfl:i=X.length:=by omega
   rw[List.take_length,<-HNB.out]at ho';go_wp2_with fail;go_ret;exact⟨_,rfl,ho',hx'⟩
end
section
open Go.RowKit
def zui (L:List Int) (v:Value):Prop:=L=[]->v = .slice none 0 0
theorem zmu {w:World}{g o:Nat}{c:Array Value}{t:TypeId}{f:Nat × Nat} (h:w.heap[g]? = some (.cells c t f)) (u:Value):(w.setCell ⟨g,o,none⟩ u).heap[g]? = some (.cells (c.setIfInBounds o u) t f):=by
 simp[World.setCell,Array.getElem?_modify,h]
def zle (w w':World) (g:Nat) (q:Option Nat) (s:Int) (L:List Int):Prop:=
 ∃ q',NodeAt w' g q' s L/\Keep (fun k=>k≠g) w w'/\(q'=q\/∀ k,q'=some k->w.heap.size<=k)
def ExtEnd (w:World) (g:Nat) (q:Option Nat) (s n:Int) (L:List Int) (ls:List Run) (e:Ending) (w':World):Prop:=
 e = .returned (.int .i64 (extF s n ls))/\zle w w' g q (if extF s n ls=0 then s+n else s) (if extF s n ls=0 then L++zm ls else L)
theorem ExtEnd.bad {w w':World}{g:Nat}{q:Option Nat}{s n c:Int}{L:List Int}{ls:List Run} (hE:extF s n ls=c) (hc:c≠0) (h:NodeAt w g q s L) (hx:Ext w w'):ExtEnd w g q s n L ls (.returned (.int .i64 c)) w':=by
 subst hE;exact⟨rfl,by rw[if_neg hc,if_neg hc];exact⟨q,h.ext hx,hx.keep _,.inl rfl⟩⟩
theorem ExtEnd.good {w w':World}{g:Nat}{q:Option Nat}{s n:Int}{L:List Int}{ls:List Run} (hE:extF s n ls=0) (h:zle w w' g q (s+n) (L++zm ls)):ExtEnd w g q s n L ls (.returned (.int .i64 0)) w':=by
 refine⟨by rw[hE],?_⟩;rw[if_pos hE,if_pos hE];exact h
theorem ztc {s n:Int}{ls:List Run} (h:(ql s n).2≠0):extF s n ls=(ql s n).2:=by unfold extF;rw[if_pos h]
theorem zvv {s n:Int}{ls:List Run} (h:(ql s n).2=0):extF s n ls=if xx ls (ql s n).1 then 0 else 1:=by unfold extF;rw[if_neg (by simpa using h)]
theorem zgg (ls:List Run) (i:Nat) (h:i<ls.length):zm (ls.take (i+1))=zm (ls.take i)++zm [ls[i]]:=by
 rw[List.take_succ_eq_append_getElem h,bk]
theorem zar (w:World) (g:Nat) (q:Option Nat) (s n:Int) (L:List Int) (h:NodeAt w g q s L) (ho:NodeOk s L) (hn : -9223372036854775808<=n/\n<=9223372036854775807) (lv:Value) (ls:List Run) (hl:RdR w lv ls) (hls : ∀ r∈ls,zhf r) :
  Calls Tryz.prog 91 #[.pointer (some ⟨g,0,none⟩),.int .i64 n,lv] w (ExtEnd w g q s n L ls):=by
 have H:=hid h;have HO:=hid ho;have hs1:=ho.lo;have hs2:=ho.hi;have hl64:=ho.len64;have HL:=hid hl;obtain⟨la,lc,rfl,hlc1,hlc2⟩:=hl.slice;have hNF:ql s n=ql s n:=rfl;obtain⟨nd,er,hne⟩ : ∃ nd er,ql s n=(nd,er):=⟨_,_,rfl⟩
 have HNE:=hid hne;have HE1:=hid (ztc (s:=s) (n:=n) (ls:=ls));have HE2:=hid (zvv (s:=s) (n:=n) (ls:=ls));rw[hne]at HE1 HE2;have hnd:er=0->0<=nd/\nd<=64/\0<=n/\n<=32768:=by
  intro e0;unfold ql at hne;by_cases h1:n<0
  ·rw[if_pos h1]at hne;simp at hne;omega
  rw[if_neg h1]at hne;by_cases h2:32768-s<n
  ·rw[if_pos h2]at hne;simp at hne;omega
  rw[if_neg h2]at hne;have b1:=zn8 hs1;have b2:=zvl (show s<=s+n by omega);have b3:=zji (show s+n<=32768 by omega);simp at hne;omega
 have her:er=0\/er=1\/er=60:=by
  unfold ql at hne;by_cases h1:n<0
  ·rw[if_pos h1]at hne;simp at hne;omega
  rw[if_neg h1]at hne;by_cases h2:32768-s<n
  ·rw[if_pos h2]at hne;simp at hne;omega
  rw[if_neg h2]at hne;simp at hne;omega
 have HND:=hid hnd;clear hne hnd hNF h ho hl;by_cases he:er=0
 ·subst he;obtain⟨n1,n2,n3,n4⟩:=HND.out rfl;have HE3:=hid (HE2.out rfl);clear HE2 HE1 HND her;go_enter Tryz.func91,Tryz.ntmps91;go_wp2_with (first|(go_at_call 89;refine(zcd w g q s n L H.out ⟨hs1,hs2⟩ hn).mono ?_;rw[HNE.out];rintro e w1 ⟨rfl,hb1⟩;have hx1:=Ext.of hb1;clear hb1)|(go_at_call 113;refine(zeq _ g q s L (H.out.ext hx1) (by omega)).mono ?_;rintro e w2 ⟨v2,rfl,ho2,hn2,hb2⟩;have hx2:=Ext.of hb2;clear hb2))
  have HO2:=hid ho2;have HN2:Hid (zui L v2):=hid hn2;clear hn2 ho2;have hX12:=hx1.trans hx2;have hb1s:=hx1.size;have hb2s:=hx2.size;go_loopw [7,9,25] (fun u7 u9 u25 wr=>∃ i:Nat,∃ ne:Int,i<=ls.length/\u25 = .int .i64 i/\u7 = .int .i64 ne/\0<=ne/\ne<=nd/\xx ls nd=xx (ls.drop i) ne/\(∀ r∈ls.take i,0<=r.1/\1<=r.2/\r.1+r.2<=512)/\((zm (ls.take i)).length:Int)=nd-ne/\OwnR wr w1.heap.size u9 (z8 (L++zm (ls.take i)))/\zui (L++zm (ls.take i)) u9/\Ext w wr/\Ext w1 wr) (fun _ _ i _=>ls.length-(intOf i).toNat);case atStart=>exact⟨0,nd,by omega,rfl,rfl,by omega,by omega,rfl,by simp,by simp[zm],by simpa[zm] using HO2.out,by simpa[zm] using HN2.out,hX12,hx2⟩
  case round=>
   obtain⟨i,ne,hi,rfl,rfl,hne0,hne1,hok,hin,hlen,hown,hnil,hxr,hx1r⟩:=hrel;have HNIL:=hid hnil;clear hnil;have HOK:=hid hok;have HOWN:=hid hown;have hlen2:(zm (ls.take i)).length<=64:=by omega
   have HLEN:=hid hlen;have HIN:=hid hin;obtain⟨a9,c9,rfl⟩:=hown.rd.slice.imp fun a h=>h.imp fun c h=>h.1;have hwin : ∀ b∈L++zm (ls.take i),0<=b/\b<512:=by
    intro b hb;rcases List.mem_append.1 hb with hb|hb
    ·exact HO.out.blk b hb
    ·obtain⟨r,hr,h4,h5⟩:=zbq.1 hb;have:=hin r hr;omega
   have HW:=hid (zdk hwin);have hwl:=bo (L++zm (ls.take i));rw[List.length_append]at hwl;clear hok hown hlen hin hwin;by_cases hlt:i<ls.length
   ·obtain⟨gl,ol,cl,e,hgl,c0,c1⟩:=(HL.out.ext hxr).at i hlt;simp only[Value.slice.injEq]at e;obtain⟨rfl,-,rfl⟩:=e;have hro:=hls _ (List.getElem_mem hlt);have hex:=zgg ls i hlt;have hdr:=List.drop_eq_getElem_cons hlt;have htk:=List.take_succ_eq_append_getElem hlt;generalize ls[i]=r at c0 c1 hro hex hdr htk;obtain⟨rf,rl⟩:=r;obtain⟨⟨ro1,ro2⟩,ro3,ro4⟩:=hro;dsimp only at c0 c1 ro1 ro2 ro3 ro4;have HEX:=hid hex;have HDR:=hid hdr;have HTK:=hid htk;clear hex hdr htk;by_cases hbad:zci (rf,rl) ne=true
    ·have hfin:extF s n ls=1:=by
      have h1:=HE3.out;rw[HOK.out,HDR.out]at h1;simp only[xx,hbad,Bool.not_true,Bool.false_and]at h1;simpa using h1
     have HF:=hid hfin;clear hfin;simp only[zci,decide_eq_true_eq]at hbad;have hb5:rf<0\/(0<=rf/\512<=rf)\/(0<=rf/\rf<512/\rl<1)\/(0<=rf/\rf<512/\1<=rl/\512-rf<rl)\/(0<=rf/\rf<512/\1<=rl/\rl<=512-rf/\ne<rl):=by omega
     clear hbad;rcases hb5 with h1|⟨h1,h2⟩|⟨h1,h2,h3⟩|⟨h1,h2,h3,h4⟩|⟨h1,h2,h3,h4,h5⟩;all_goals
      go_wp2_with fail;go_ret;exact ExtEnd.bad HF.out (by decide) H.out (by(exact Ext.xt))
    ·have hok2:xx (ls.drop i) ne=xx (ls.drop (i+1)) (ne-rl):=by
      rw[HDR.out];simp[xx,hbad]
     have HOK2:=hid (HOK.out.trans hok2);clear hok2;simp only[zci,Bool.not_eq_true,decide_eq_false_iff_not]at hbad;have h1:0<=rf:=by omega
     have h2:rf<512:=by omega
     have h3:1<=rl:=by omega
     have h4:rl<=512-rf:=by omega
     have h5:rl<=ne:=by omega
     clear hbad;have HPUT:=hid (zhz (L++zm (ls.take i)) rf rl.toNat (by omega));have hrl:((rl.toNat:Nat):Int)=rl:=by omega
     rw[hrl,List.append_assoc,<-HEX.out]at HPUT;have hwl2:(z8 (L++zm (ls.take i))).length<=1000000:=by omega
     have HWB:=hid (fun x (hx:x∈z8 (L++zm (ls.take i)))=>show (-1000000<=x.1/\x.1<=1000000)/\ -1000000<=x.2/\x.2<=1000000 by have:=HW.out x hx;omega);have hexl:(zm [(rf,rl)]).length=rl.toNat:=xo rf rl;have HXL:=hid hexl;clear hrl hexl;generalize z8 (L++zm (ls.take i))=X at*;generalize hY:z8 (L++zm (ls.take (i+1)))=Y at*;have HY:=hid hY;clear hY;have hbr:=hx1r.size;go_wp2_with ((go_at_call 141;go_must (refine(zva _ w1.heap.size _ X (rf,rl) (HOWN.out.ext ((Ext.refl wr).alloc _)) (by simp;omega) (by omega) HWB.out ⟨⟨by omega,by omega⟩,by dsimp only;omega,by dsimp only;omega⟩).mono ?_;rw[<-HPUT.out];rintro e w5 ⟨v5,rfl,k1,k4,k6⟩)))
     go_roundw;case rel=>
      have hrow : ∀ k,(Value.slice a9 X.length c9).ownBlock=some k->w1.heap.size<=k:=fun k hk=>(HOWN.out.lt k hk).1;refine⟨i+1,ne-rl,by omega,by go_num,rfl,by omega,by omega,HOK2.out,fun r hr=>?_,?_,by rw[HY.out];exact k1,fun e=>absurd (congrArg List.length e) (by rw[HEX.out,List.length_append,List.length_append,HXL.out,List.length_nil];omega),(hxr.alloc _).grown k4 (fun k hk=>by have:=hrow k hk;omega),(hx1r.alloc _).grown k4 hrow⟩
      ·rw[HTK.out]at hr;rcases List.mem_append.1 hr with hr|hr
       ·exact HIN.out r hr
       ·obtain rfl:=List.mem_singleton.1 hr;dsimp only;omega
      ·rw[HEX.out,List.length_append,HXL.out];have:=HLEN.out;omega
     case measure=>simp[intOf];omega
   ·obtain rfl:i=ls.length:=by omega
    have hfin:=HE3.out;rw[HOK.out,List.drop_length]at hfin;simp only[xx,decide_eq_true_eq]at hfin;have HF:=hid hfin;clear hfin hlt hi;have HT:=hid (show ls.take ls.length=ls from List.take_length);rw[HT.out]at HOWN HNIL;by_cases hne:ne=0
    ·subst hne;obtain⟨na,nc,d0,d1,-,e0,e1,-,-⟩:=(H.out.ext hxr).cells;have hgw:=H.out.lt;have hwr:=hxr.size;have hsn : -9223372036854775808<=s+n/\s+n<=9223372036854775807:=by omega
     go_wp2_with fail;go_ret;obtain⟨vr,hb,-⟩:=H.out.ext hxr;have hlt:=fun k hk=>HOWN.out.lt k hk;have hkeep:Keep (fun k=>k≠g) wr ((wr.setCell ⟨g,0,none⟩ (.int .i64 (s+n))).setCell ⟨g,1,none⟩ (Value.slice a9 (z8 (L++zm ls)).length c9)):=((Keep.refl _ wr).setCell (by simp) _).setCell (by simp) _;refine ExtEnd.good (by rw[HF.out];simp) ⟨_,⟨_,by rw[zmu (zmu hb _) _];rfl,HOWN.out.rd.keep hkeep (fun _ k hk=>by have:=hlt k hk;omega),rfl,fun e=>by have:=hlt g e;omega,fun k hk=>by have:=hlt k hk;have:=hkeep.size;omega,fun e=>HNIL.out e⟩,(hxr.keep _).trans hkeep,.inr fun k hk=>by have:=hlt k hk;omega⟩
    ·have hne':((ne:Int) != 0)=true:=by simpa using hne
     go_wp2_with fail;go_ret;exact ExtEnd.bad (by rw[HF.out,if_neg hne]) (by decide) H.out (by(exact Ext.xt))
 ·go_enter Tryz.func91,Tryz.ntmps91;go_wp2_with (first|(go_at_call 89;refine(zcd w g q s n L H.out ⟨hs1,hs2⟩ hn).mono ?_;rw[HNE.out];rintro e w1 ⟨rfl,hb1⟩;have hx1:=Ext.of hb1;clear hb1))
  go_ret;exact ExtEnd.bad (HE1.out he) he H.out hx1
end
end Go.Proofs.YtnadlnmclameiaaGreatDoor
