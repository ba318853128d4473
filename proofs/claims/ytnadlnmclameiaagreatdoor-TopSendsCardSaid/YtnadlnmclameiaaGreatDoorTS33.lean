/- part 33 -/
import Derived.Test.YtnadlnmclameiaaGreatDoorTS32
set_option maxRecDepth 100000
set_option maxHeartbeats 8000000
set_option linter.all false
namespace Go.Proofs.YtnadlnmclameiaaGreatDoor
section
open Go.RowKit
theorem zu {w:World}{g o:Nat}{c:Array Value}{t:TypeId}{f:Nat × Nat} (h:w.heap[g]? = some (.cells c t f)) (u:Value):(w.setCell ⟨g,o,none⟩ u).heap[g]? = some (.cells (c.setIfInBounds o u) t f):=by
 simp[World.setCell,Array.getElem?_modify,h]
theorem zc {w:World}{g:Nat}{c:Array Value}{t:TypeId} (h:w.heap[g]? = some (.cells c t (0,0))) (o:Nat):w.frozen? ⟨g,o,none⟩=false:=by simp[World.frozen?,h]
theorem RdB.kept {S:Nat->Prop}{w w':World}{v:Value}{l:List UInt8} (h:RdB w v l) (hk:Keep S w w') (hS:0<l.length->∀ k,v.ownBlock=some k->S k):RdB w' v l:=
 Rd.carry0 h hk.size fun hn k hb hl=>hk.block k (hS hn k hb) hl
def CurT (T:TypeId) (w:World) (g B:Nat) (st:stSt):Prop:=
 ∃ v,w.heap[g]? = some (.cells #[v,.bool st.2] T (0,0))/\RdB w v st.1/\(0<st.1.length->∀ k,v.ownBlock=some k->k<B)/\B<=g
section
variable {T:TypeId}{w w':World}{g B:Nat}{st:stSt}
theorem CurT.keep {S:Nat->Prop} (h:CurT T w g B st) (hk:Keep S w w') (hg:S g) (hS : ∀ k,k<B->S k):CurT T w' g B st:=by
 obtain⟨v,h1,h2,h3,h4⟩:=h;have hl:g<w.heap.size:=(blt h1)
 exact⟨v,by rw[hk.block g hg hl];exact h1,h2.kept hk (fun hn k hb=>hS k (h3 hn k hb)),h3,h4⟩
theorem CurT.ext (h:CurT T w g B st) (hx:Ext w w'):CurT T w' g B st:=h.keep (hx.keep (fun _=>True)) trivial fun _ _=>trivial
theorem CurT.lt (h:CurT T w g B st):g<w.heap.size:=by
 obtain⟨v,h1,_⟩:=h;exact(blt h1)
theorem CurT.bad (h:CurT T w g B st):w.cell? ⟨g,1,none⟩=some (.bool st.2):=by
 obtain⟨v,h1,_⟩:=h;rw[cell_of_row _ _ _ _ _ _ h1];rfl
end
abbrev CurC (w:World) (g B:Nat) (st:stSt):Prop:=CurT 159 w g B st
theorem zao (w:World) (g B:Nat) (st:stSt) (n e:Nat) (h:CurC w g B st) (hn:e=0->n<=st.1.length) (hn2:n<=9223372036854775807) (he:e<=1000) :
  Calls Tryz.prog 118 #[.pointer (some ⟨g,0,none⟩),.int .i64 n,.int .i64 e] w fun en w'=>en = .returned (.tuple #[])/\CurC w' g B (tk st n e)/\Keep (fun k=>k≠g) w w':=by
 obtain⟨l,bad⟩:=st;obtain⟨v,h1,h2,h3,hBg⟩:=h;dsimp only at h1 h2 h3 hn;obtain⟨a,cap,rfl,hc1,hc2,-,-⟩:=id h2;have c0:w.cell? ⟨g,0,none⟩=some (.slice a l.length cap):=by rw[cell_of_row _ _ _ _ _ _ h1];rfl
 have f0:=zc h1 0;have f1:=zc h1 1;have hcI:cap<=9223372036854775807:=by unfold maxLen at hc2;omega
 have HB:=hid h1;have HR:=hid h2;have HV:=hid h3;have hgw:g<w.heap.size:=(blt h1)
 have c1:w.cell? ⟨g,1,none⟩=some (.bool bad):=by rw[cell_of_row _ _ _ _ _ _ h1];rfl
 clear h1 h2 h3 hc2;by_cases he0:e=0
 ·subst he0;have hnl:=hn rfl;have HD:=hid (HR.out.drop n hnl);clear hn;go_enter Tryz.func118,Tryz.ntmps118;go_wp2_with ((with_reducible refine yo ?_);go_must (refine yf rfl rfl Tryz.underlying33 qe rfl rfl n rfl ?_ ?_;omega))
  go_end0;refine⟨rfl,?_,(Keep.refl _ w).setCell (by simp) _⟩;exact⟨_,zu HB.out _,HD.out.kept ((Keep.refl (fun k=>k≠g) w).setCell (by simp) _) (fun hl k hk=>by have:=HV.out (by simp only[List.length_drop]at hl;omega) k (by rw[<-hk];exact cutAt_block.symm);omega),fun hl k hk=>HV.out (by simp only[tk,if_true,List.length_drop]at hl;omega) k (by rw[<-hk];exact cutAt_block.symm),hBg⟩
 ·have e0:((e:Int) == 0)=false:=by rw[beq_eq_false_iff_ne];omega
  have HD:=hid (HR.out.drop l.length (Nat.le_refl _));have hld:l.drop l.length=[]:=List.drop_length;go_enter Tryz.func118,Tryz.ntmps118;go_wp2_with ((with_reducible refine yo ?_);go_must (refine yf rfl rfl Tryz.underlying33 qe rfl rfl l.length rfl ?_ ?_;omega))
  go_end0;have htk:tk (l,bad) n e=([],true):=by unfold tk;rw[if_neg he0]
  have hD:=HD.out;rw[hld,Nat.sub_self]at hD;refine⟨rfl,?_,((Keep.refl _ w).setCell (by simp) _).setCell (by simp) _⟩;rw[htk];exact⟨_,zu (zu HB.out _) _,hD.kept (((Keep.refl (fun k=>k≠g) w).setCell (by simp) _).setCell (by simp) _) (fun hl=>absurd hl (by simp)),fun hl=>absurd hl (by simp),hBg⟩
theorem zlp (l:List UInt8) (most:Int):(zyg l most).2.1<=l.length/\(zyg l most).2.2<=12:=by
 have h:=yh l;unfold zyg;split
 ·exact⟨by dsimp only;omega,by dsimp only;omega⟩
 ·split
  ·exact⟨by dsimp only;omega,by dsimp only;omega⟩
  ·split
   ·exact⟨by dsimp only;omega,by dsimp only;omega⟩
   ·refine⟨?_,by dsimp only;omega⟩;rename_i h1 h2 h3
    dsimp only;omega
theorem jz (w:World) (g B:Nat) (st:stSt) (most:Nat) (h:CurC w g B st) (hm:most<=1000000) (hl:st.1.length<=9223372036854775807) :
  Calls Tryz.prog 70 #[.pointer (some ⟨g,0,none⟩),.int .i64 most] w fun en w'=>en = .returned (.string (y8 most st).1)/\CurC w' g B (y8 most st).2/\Keep (fun k=>k≠g) w w':=by
 have H:=hid h;obtain⟨l,bad⟩:=st;obtain⟨v,h1,h2,h3,hBg⟩:=h;dsimp only at h1 h2 h3 hl;have c0:w.cell? ⟨g,0,none⟩=some v:=by rw[cell_of_row _ _ _ _ _ _ h1];rfl
 obtain⟨f1,f2⟩:=zlp l (most:Int);have HT:=hid (show y8 (most:Int) (l,bad)=(⟨(zyg l (most:Int)).1.toArray⟩,tk (l,bad) (zyg l (most:Int)).2.1 (zyg l (most:Int)).2.2) from rfl);have HR:=hid h2;obtain⟨U,HU⟩ : ∃ U,Hid (zyg l (most:Int)=U):=⟨_,hid rfl⟩
 rw[HU.out]at f1 f2 HT;obtain⟨x,n,e⟩:=U;dsimp only at f1 f2 HT;clear h1 h2 h3;go_enter Tryz.func70,Tryz.ntmps70;go_wp2_with (first|(go_at_call 111;go_must (refine(zk8 w v l (most:Int) (by omega) (by omega) HR.out).mono ?_;rw[HU.out];rintro e w' ⟨rfl,rfl⟩))|(go_at_call 118;go_must (refine(zao w g B (l,bad) n e H.out (fun _=>f1) (by omega) (by omega)).mono ?_;rintro en w' ⟨rfl,HC,hk⟩;have HC:=hid HC;have HK:=hid hk;clear hk)))
 go_ret;exact⟨by rw[HT.out];rfl,by rw[HT.out];exact HC.out,HK.out⟩
theorem zbp (w:World) (g B:Nat) (st:stSt) (most:Nat) (h:CurC w g B st) (hm:most<=9223372036854775807) (hl:st.1.length<=9223372036854775807) :
  Calls Tryz.prog 71 #[.pointer (some ⟨g,0,none⟩),.int .u64 most] w fun en w'=>en = .returned (.int .i64 ((rNum most st).1:Nat))/\CurC w' g B (rNum most st).2/\Keep (fun k=>k≠g) w w':=by
 have H:=hid h;obtain⟨l,bad⟩:=st;obtain⟨v,h1,h2,h3,hBg⟩:=h;dsimp only at h1 h2 h3 hl;have c0:w.cell? ⟨g,0,none⟩=some v:=by rw[cell_of_row _ _ _ _ _ _ h1];rfl
 have hf:=yh l;have HR:=hid h2;have HN:=hid (show rNum most (l,bad)=(if (tk (l,bad) (zi l).2.1 (if most<(zi l).1 then 12 else (zi l).2.2)).2 then 0 else (zi l).1,tk (l,bad) (zi l).2.1 (if most<(zi l).1 then 12 else (zi l).2.2)) from rfl);obtain⟨U,HU⟩ : ∃ U,Hid (zi l=U):=⟨_,hid rfl⟩
 rw[HU.out]at hf HN;obtain⟨n,k,e⟩:=U;dsimp only at hf HN;clear h1 h2 h3;obtain⟨E,hE⟩ : ∃ E,E=if most<n then 12 else e:=⟨_,rfl⟩
 rw[<-hE]at HN;have hE2:E<=12:=by rw[hE];split <;> omega
 have hcases:(most<n/\E=12)\/(¬ most<n/\E=e):=by
  by_cases h:most<n
  ·left;exact⟨h,by rw[hE,if_pos h]⟩
  ·right;exact⟨h,by rw[hE,if_neg h]⟩
 obtain⟨S,HS⟩ : ∃ S,Hid (tk (l,bad) k E=S):=⟨_,hid rfl⟩
 rw[HS.out]at HN;have hbn:S.2=false->n<=most:=by
  intro h0;by_cases h:most<n
  ·have:E=12:=by rw[hE,if_pos h]
   rw[<-HS.out,this]at h0;simp[tk]at h0
  ·omega
 obtain⟨r,b⟩:=S;dsimp only at HN hbn;have HBN:=hid hbn;clear hE hbn;have hkl:k<=l.length:=by omega
 rcases hcases with⟨h1,rfl⟩|⟨h1,rfl⟩
 ·cases b
  ·have hn2:=HBN.out rfl;exfalso;omega
  ·simp only[if_true]at HN;go_enter Tryz.func71,Tryz.ntmps71;go_wp2_with (first|(go_at_call 103;go_must (refine(yv w v l HR.out).mono ?_;rw[HU.out];rintro e w' ⟨rfl,rfl⟩))|(go_at_call 118;go_must (refine(zao w g B (l,bad) k 12 H.out (fun _=>hkl) (by omega) (by omega)).mono ?_;rw[HS.out];rintro en w' ⟨rfl,HC,hk⟩;have cb:=CurT.bad HC;dsimp only at cb;have HC:=hid HC;have HK:=hid hk;clear hk)))
   go_ret;exact⟨by rw[HN.out];rfl,by rw[HN.out];exact HC.out,HK.out⟩
 ·cases b
  ·have hn2:=HBN.out rfl;simp only[Bool.false_eq_true,if_false]at HN;go_enter Tryz.func71,Tryz.ntmps71;go_wp2_with (first|(go_at_call 103;go_must (refine(yv w v l HR.out).mono ?_;rw[HU.out];rintro e w' ⟨rfl,rfl⟩))|(go_at_call 118;go_must (refine(zao w g B (l,bad) k E H.out (fun _=>hkl) (by omega) (by omega)).mono ?_;rw[HS.out];rintro en w' ⟨rfl,HC,hk⟩;have cb:=CurT.bad HC;dsimp only at cb;have HC:=hid HC;have HK:=hid hk;clear hk)))
   go_ret;exact⟨by rw[HN.out];rfl,by rw[HN.out];exact HC.out,HK.out⟩
  ·simp only[if_true]at HN;go_enter Tryz.func71,Tryz.ntmps71;go_wp2_with (first|(go_at_call 103;go_must (refine(yv w v l HR.out).mono ?_;rw[HU.out];rintro e w' ⟨rfl,rfl⟩))|(go_at_call 118;go_must (refine(zao w g B (l,bad) k E H.out (fun _=>hkl) (by omega) (by omega)).mono ?_;rw[HS.out];rintro en w' ⟨rfl,HC,hk⟩;have cb:=CurT.bad HC;dsimp only at cb;have HC:=hid HC;have HK:=hid hk;clear hk)))
   go_ret;exact⟨by rw[HN.out];rfl,by rw[HN.out];exact HC.out,HK.out⟩
end
section
open Go.RowKit
def rEnt:Rdr Ent:=ke rI (ke rS (ke rI rE))
theorem zhu:(Tryz.prog.info? 100).map (fun i=>(i.zero,i.size,i.bytes))=some (some (.agg #[.int .i64 0,.string ⟨#[]⟩,.int .i64 0,.string ⟨#[]⟩,.int .i64 0,.slice none 0 0]),6,80):=by kernel_rfl
theorem zht:(Tryz.prog.info? 3).map (fun i=>(i.zero,i.size,i.bytes))=some (some (.int .i64 0),1,8):=by kernel_rfl
inductive Rol where
 | idx|smap|kmap|row0|elem
 | row (s:ByteArray)
def encK (z:ByteArray × Apd):Value:=.agg #[.string z.1,.int .i64 z.2.1,.int .i64 z.2.2.1,.int .i64 z.2.2.2.1,.bool z.2.2.2.2]
def jo:Value:=.slice none 0 0
structure IxP (w:World) (g:Nat) (ρ:Nat->Option Rol) (ns nk:Nat) (x:Ix) (va:Value) (gs gk:Nat) (ms mk:ByteArray->Option Value):Prop where
 head:w.heap[g]? = some (.cells #[va,.map (some gs),.map (some gk)] 111 (0,0))
 rg:ρ g=some .idx
 all:OwnS rEnt 100 w 0 (fun k=>ρ k=some .elem) va x.all
 rall : ∀ k,va.ownBlock=some k->ρ k=some .row0
 str:MapG kStr w gs ns ms
 rs:ρ gs=some .smap
 strs : ∀ s,s.size<=maxLen->OwnS rI 3 w 0 (fun _=>False) ((ms s).getD jo) (x.str s)
 rstr : ∀ s,s.size<=maxLen->∀ k,((ms s).getD jo).ownBlock=some k->ρ k=some (.row s)
 has : ∀ s,s.size<=maxLen->((ms s).isSome=true↔x.str s≠[])
 key:MapG kStr w gk nk mk
 rk:ρ gk=some .kmap
 keys : ∀ s,s.size<=maxLen->mk s=(x.key s).map encK
 lt : ∀ k,ρ k≠none->k<w.heap.size
def IxAt (w:World) (g:Nat) (ρ:Nat->Option Rol) (ns nk:Nat) (x:Ix):Prop:=∃ va gs gk ms mk,IxP w g ρ ns nk x va gs gk ms mk
section
variable {w w':World}{g:Nat}{ρ:Nat->Option Rol}{ns nk:Nat}{x:Ix}{va:Value}{gs gk:Nat}{ms mk:ByteArray->Option Value}
theorem IxP.keep (h:IxP w g ρ ns nk x va gs gk ms mk) (hk:Keep (fun k=>ρ k≠none) w w'):IxP w' g ρ ns nk x va gs gk ms mk where
 head:=by rw[hk.block g (by rw[h.rg];simp) (h.lt g (by rw[h.rg];simp))];exact h.head
 rg:=h.rg
 all:=h.all.kept (hk.mono fun k hs _=>by
  rcases hs with hs|hs
  ·rw[hs];simp
  ·rw[h.rall k hs];simp)
 rall:=h.rall
 str:=h.str.kept hk (by rw[h.rs];simp)
 rs:=h.rs
 strs s hs:=(h.strs s hs).kept (hk.mono fun k hh _=>by
  rcases hh with hh|hh
  ·exact hh.elim
  ·rw[h.rstr s hs k hh];simp)
 rstr:=h.rstr
 has:=h.has
 key:=h.key.kept hk (by rw[h.rk];simp)
 rk:=h.rk
 keys:=h.keys
 lt k hr:=Nat.lt_of_lt_of_le (h.lt k hr) hk.size
theorem IxP.ext (h:IxP w g ρ ns nk x va gs gk ms mk) (hx:Ext w w'):IxP w' g ρ ns nk x va gs gk ms mk:=h.keep (hx.keep _)
theorem IxAt.keep (h:IxAt w g ρ ns nk x) (hk:Keep (fun k=>ρ k≠none) w w'):IxAt w' g ρ ns nk x:=by
 obtain⟨va,gs,gk,ms,mk,h⟩:=h;exact⟨va,gs,gk,ms,mk,h.keep hk⟩
theorem IxP.mono (h:IxP w g ρ ns nk x va gs gk ms mk) {ns' nk':Nat} (h1:ns<=ns') (h2:nk<=nk'):IxP w g ρ ns' nk' x va gs gk ms mk:={ h with str:=h.str.mono h1,key:=h.key.mono h2 }
theorem IxAt.mono (h:IxAt w g ρ ns nk x) {ns' nk':Nat} (h1:ns<=ns') (h2:nk<=nk'):IxAt w g ρ ns' nk' x:=by
 obtain⟨va,gs,gk,ms,mk,h⟩:=h;exact⟨va,gs,gk,ms,mk,h.mono h1 h2⟩
theorem IxP.c0 (h:IxP w g ρ ns nk x va gs gk ms mk):w.cell? ⟨g,0,none⟩=some va:=(cr _ h.head)
theorem IxP.c1 (h:IxP w g ρ ns nk x va gs gk ms mk):w.cell? ⟨g,1,none⟩=some (.map (some gs)):=(cr _ h.head)
theorem IxP.c2 (h:IxP w g ρ ns nk x va gs gk ms mk):w.cell? ⟨g,2,none⟩=some (.map (some gk)):=(cr _ h.head)
theorem IxP.glt (h:IxP w g ρ ns nk x va gs gk ms mk):g<w.heap.size:=h.lt g (by rw[h.rg];simp)
theorem IxP.ne1 (h:IxP w g ρ ns nk x va gs gk ms mk):g≠gs:=fun e=>by have:=h.rg;rw[e,h.rs]at this;simp at this
theorem IxP.ne2 (h:IxP w g ρ ns nk x va gs gk ms mk):g≠gk:=fun e=>by have:=h.rg;rw[e,h.rk]at this;simp at this
theorem IxP.ne3 (h:IxP w g ρ ns nk x va gs gk ms mk):gs≠gk:=fun e=>by have:=h.rs;rw[e,h.rk]at this;simp at this
theorem IxP.setKey (h:IxP w g ρ ns nk x va gs gk ms mk) {k:ByteArray} (hk:k.size<=maxLen) {z:ByteArray × Apd} (hm:MapG kStr w' gk (nk+1) (upd mk k (encK z))) (hg:w.grownBy w' (some gk)) (hs:w'.heap.size=w.heap.size) :
  IxP w' g ρ ns (nk+1) { x with key:=fun t=>if t=k then some z else x.key t } va gs gk ms (upd mk k (encK z)):=by
 have hkeep:Keep (fun j=>j≠gk) w w':=(zl hg).mono fun j hj _ e=>hj (Option.some.inj e);exact {
  head:=by rw[hkeep.block g h.ne2 h.glt];exact h.head
  rg:=h.rg
  all:=h.all.kept (hkeep.mono fun j hj _ e=>by
   subst e;rcases hj with hj|hj
   ·rw[h.rk]at hj;simp at hj
   ·have:=h.rall _ hj;rw[h.rk]at this;simp at this)
  rall:=h.rall
  str:=h.str.kept hkeep h.ne3
  rs:=h.rs
  strs:=fun s hs=>(h.strs s hs).kept (hkeep.mono fun j hj _ e=>by
   subst e;rcases hj with hj|hj
   ·exact hj.elim
   ·have:=h.rstr s hs _ hj;rw[h.rk]at this;simp at this)
  rstr:=h.rstr
  has:=h.has
  key:=hm
  rk:=h.rk
  keys:=fun s hs=>by
   by_cases e:s=k
   ·subst e;rw[k9];simp
   ·rw[xz _ _ e,h.keys s hs];simp[e]
  lt:=fun j hj=>by rw[hs];exact h.lt j hj }
def rolS (ρ:Nat->Option Rol) (v':Value) (s:ByteArray):Nat->Option Rol:=fun k=>if v'.ownBlock=some k then some (.row s) else ρ k
theorem IxP.setStr {wA wB:World} (h:IxP w g ρ ns nk x va gs gk ms mk) {s:ByteArray} (hs:s.size<=maxLen) {n:Int}{v':Value} (hxA:Ext w wA)
  (ho:OwnS rI 3 wB 0 (fun _=>False) v' (x.str s++[n])) (hgB:wA.grownBy wB ((ms s).getD jo).ownBlock) (hv' : ∀ k,v'.ownBlock=some k->((ms s).getD jo).ownBlock=some k\/wA.heap.size<=k)
  (hm:MapG kStr w' gs (ns+1) (upd ms s v')) (hg:wB.grownBy w' (some gs)) :
  IxP w' g (rolS ρ v' s) (ns+1) nk { x with str:=fun t=>if t=s then x.str s++[n] else x.str t } va gs gk (upd ms s v') mk/\Keep (fun k=>ρ k=none) w w'/\(∀ k,rolS ρ v' s k≠none->ρ k≠none\/w.heap.size<=k):=by
 have hkB:Keep (fun j=>¬ ((ms s).getD jo).ownBlock=some j) w wB:=(hxA.keep _).trans ((zl hgB).mono fun j hj _ e=>hj e.symm);have hkC:Keep (fun j=>j≠gs) wB w':=(zl hg).mono fun j hj _ e=>hj (Option.some.inj e);have hk:Keep (fun j=>¬ ((ms s).getD jo).ownBlock=some j/\j≠gs) w w':=(hkB.mono fun j hj _=>hj.1).trans (hkC.mono fun j hj _=>hj.2);have hold : ∀ k,ρ k≠none->ρ k≠some (.row s)->¬ v'.ownBlock=some k:=fun k h1 h2 e=>by
  rcases hv' k e with e'|e'
  ·exact h2 (h.rstr s hs k e')
  ·have:=h.lt k h1;have:=hxA.size;omega
 have hro : ∀ k r,ρ k=some r->(∀ e,r≠ .row e)->rolS ρ v' s k=some r/\(¬ ((ms s).getD jo).ownBlock=some k):=fun k r h1 h2=>by
  refine⟨?_,fun e=>?_⟩
  ·unfold rolS;rw[if_neg (hold k (by rw[h1];simp) (by rw[h1];intro e;exact h2 s (Option.some.inj e)))];exact h1
  ·have:=h.rstr s hs k e;rw[h1]at this;exact h2 s (Option.some.inj this)
 have hg0:=hro g _ h.rg (by simp);have hs0:=hro gs _ h.rs (by simp);have hk0:=hro gk _ h.rk (by simp);have hvlt : ∀ k,v'.ownBlock=some k->k<w'.heap.size:=fun k hkk=>Nat.lt_of_lt_of_le (ho.lt k hkk).2 hkC.size;refine⟨{
  head:=by rw[hk.block g ⟨hg0.2,h.ne1⟩ h.glt];exact h.head
  rg:=hg0.1
  all:= ?_
  rall:=fun k hkk=>(hro k _ (h.rall k hkk) (by simp)).1
  str:=hm
  rs:=hs0.1
  strs:=fun t ht=>?_
  rstr:=fun t ht k hkk=>?_
  has:=fun t ht=>?_
  key:=h.key.kept hk ⟨hk0.2,fun e=>h.ne3 e.symm⟩
  rk:=hk0.1
  keys:=h.keys
  lt:=fun k hr=>?_ },hk.mono fun k hr _=>⟨fun e=>by have:=h.rstr s hs k e;rw[hr]at this;simp at this,fun e=>by rw[e,h.rs]at hr;simp at hr⟩,fun k hr=>?_⟩
 ·have h1:=h.all.kept (hk.mono fun j hj _=>by
   rcases hj with hj|hj
   ·exact⟨(hro j _ hj (by simp)).2,fun e=>by rw[e,h.rs]at hj;simp at hj⟩
   ·have hj:=h.rall j hj;exact⟨(hro j _ hj (by simp)).2,fun e=>by rw[e,h.rs]at hj;simp at hj⟩)
  refine h1.widen (fun k he _=>(hro k _ he (by simp)).1) (fun k hkk he=>?_);have:=(hro k _ (h.rall k hkk) (by simp)).1;rw[this]at he;simp at he
 ·by_cases e:t=s
  ·subst e;rw[k9];simp only[if_true,Option.getD_some];refine ho.kept (hkC.mono fun j hj _ e=>?_);subst e;rcases hj with hj|hj
   ·exact hj.elim
   ·rcases hv' _ hj with hj|hj
    ·exact hs0.2 hj
    ·have:=h.str.lt;have:=hxA.size;omega
  ·rw[xz _ _ e];simp only[if_neg e];refine(h.strs t ht).kept (hk.mono fun j hj _=>?_);rcases hj with hj|hj
   ·exact hj.elim
   ·have h1:=h.rstr t ht j hj;refine⟨fun e'=>?_,fun e'=>by rw[e',h.rs]at h1;simp at h1⟩;have h2:=h.rstr s hs j e';rw[h1]at h2;simp only[Option.some.injEq,Rol.row.injEq]at h2;exact e h2
 ·by_cases e:t=s
  ·subst e;rw[k9]at hkk;simp only[Option.getD_some]at hkk;unfold rolS;rw[if_pos hkk]
  ·rw[xz _ _ e]at hkk;have h1:=h.rstr t ht k hkk;unfold rolS;rw[if_neg (hold k (by rw[h1];simp) (by rw[h1];intro e';simp only[Option.some.injEq,Rol.row.injEq]at e';exact e e'))];exact h1
 ·by_cases e:t=s
  ·subst e;rw[k9];simp
  ·rw[xz _ _ e];simp only[if_neg e];exact h.has t ht
 ·unfold rolS at hr;split at hr
  ·rename_i hv;exact hvlt k hv
  ·exact Nat.lt_of_lt_of_le (h.lt k hr) hk.size
 ·unfold rolS at hr;split at hr
  ·rename_i hv
   rcases hv' k hv with e|e
   ·left;rw[h.rstr s hs k e];simp
   ·right;have:=hxA.size;omega
  ·exact .inl hr
def rolA (ρ:Nat->Option Rol) (v':Value) (lo hi:Nat):Nat->Option Rol:=fun k=>if v'.ownBlock=some k then some .row0 else if lo<=k/\k<hi then some .elem else ρ k
theorem IxP.setAll {wA wA' wB:World} (h:IxP w g ρ ns nk x va gs gk ms mk) {e:Ent}{v':Value} (hxA:Ext w wA) (hxA':Ext wA wA')
  (ho:OwnS rEnt 100 wB 0 (fun k=>ρ k=some .elem\/(w.heap.size<=k/\k<wA.heap.size)) v' (x.all++[e])) (hgB:wA'.grownBy wB va.ownBlock) (hv' : ∀ k,v'.ownBlock=some k->va.ownBlock=some k\/wA'.heap.size<=k) :
  IxP (wB.setCell ⟨g,0,none⟩ v') g (rolA ρ v' w.heap.size wA.heap.size) ns nk { x with all:=x.all++[e] } v' gs gk ms mk/\Keep (fun k=>ρ k=none) w (wB.setCell ⟨g,0,none⟩ v')/\(∀ k,rolA ρ v' w.heap.size wA.heap.size k≠none->ρ k≠none\/w.heap.size<=k):=by
 have hsA:=hxA.size;have hsA':=hxA'.size;have hkB:Keep (fun j=>¬ va.ownBlock=some j) w wB:=((hxA.trans hxA').keep _).trans ((zl hgB).mono fun j hj _ e=>hj e.symm);have hkC:Keep (fun j=>j≠g) wB (wB.setCell ⟨g,0,none⟩ v'):=(Keep.refl _ wB).setCell (by simp) _;have hk:Keep (fun j=>¬ va.ownBlock=some j/\j≠g) w (wB.setCell ⟨g,0,none⟩ v'):=(hkB.mono fun j hj _=>hj.1).trans (hkC.mono fun j hj _=>hj.2);have hro : ∀ k r,ρ k=some r->r≠ .row0->rolA ρ v' w.heap.size wA.heap.size k=some r/\¬ va.ownBlock=some k:=fun k r h1 h2=>by
  have hlt:=h.lt k (by rw[h1];simp);have h3 : ¬ va.ownBlock=some k:=fun e=>by
   have:=h.rall k e;rw[h1]at this;exact h2 (Option.some.inj this)
  refine⟨?_,h3⟩;unfold rolA;rw[if_neg (fun e=>by rcases hv' k e with e'|e';exact h3 e';omega),if_neg (by omega)];exact h1
 have hg0:=hro g _ h.rg (by simp);have hs0:=hro gs _ h.rs (by simp);have hk0:=hro gk _ h.rk (by simp);have hgl:=h.glt;have hgB2:wB.heap[g]? = some (.cells #[va,.map (some gs),.map (some gk)] 111 (0,0)):=by rw[hkB.block g hg0.2 hgl];exact h.head
 refine⟨{
  head:=by rw[zu hgB2];rfl
  rg:=hg0.1
  all:= ?_
  rall:=fun k hkk=>by unfold rolA;rw[if_pos hkk]
  str:=h.str.kept hk ⟨hs0.2,fun e=>h.ne1 e.symm⟩
  rs:=hs0.1
  strs:=fun t ht=>(h.strs t ht).kept (hk.mono fun j hj _=>?_)
  rstr:=fun t ht k hkk=>(hro k _ (h.rstr t ht k hkk) (by simp)).1
  has:=h.has
  key:=h.key.kept hk ⟨hk0.2,fun e=>h.ne2 e.symm⟩
  rk:=hk0.1
  keys:=h.keys
  lt:=fun k hr=>?_ },hk.mono fun k hr _=>⟨fun e=>by have:=h.rall k e;rw[hr]at this;simp at this,fun e=>by rw[e,h.rg]at hr;simp at hr⟩,fun k hr=>?_⟩
 ·have h1:=ho.kept (hkC.mono fun j hj _ e=>by
   subst e;rcases hj with hj|hj
   ·rcases hj with hj|hj
    ·rw[h.rg]at hj;simp at hj
    ·omega
   ·rcases hv' _ hj with hj|hj
    ·exact hg0.2 hj
    ·omega)
  refine h1.widen (fun k he _=>?_) (fun k hkk he=>?_)
  ·rcases he with he|he
   ·exact(hro k _ he (by simp)).1
   ·unfold rolA;rw[if_neg,if_pos he];intro e';rcases hv' k e' with e'|e'
    ·have:=h.lt k (by rw[h.rall k e'];simp);omega
    ·omega
  ·unfold rolA at he;rw[if_pos hkk]at he;simp at he
 ·rcases hj with hj|hj
  ·exact hj.elim
  ·have h1:=h.rstr t ht j hj;exact⟨(hro j _ h1 (by simp)).2,fun e=>by rw[e,h.rg]at h1;simp at h1⟩
 ·unfold rolA at hr;split at hr
  ·rename_i hv
   exact Nat.lt_of_lt_of_le (ho.lt k hv).2 hkC.size
  ·split at hr
   ·rename_i hv
    have:=hgB.size;have:=hkC.size;omega
   ·exact Nat.lt_of_lt_of_le (h.lt k hr) hk.size
 ·unfold rolA at hr;split at hr
  ·rename_i hv
   rcases hv' k hv with e|e
   ·left;rw[h.rall k e];simp
   ·right;omega
  ·split at hr
   ·rename_i hv;right;omega
   ·exact .inl hr
end
end
section
open Go.RowKit
def rSlO {α:Type} (r:Rdr α) (t:TypeId):Rdr (List α) where
 size:=1
 rd w S cs xs:=∃ v,cs=[v]/\(rSl r).rd w S [v] xs/\∀ k,v.ownBlock=some k->S k/\∃ cur,w.heap[k]? = some (.cells cur t (0,0))
 len h:=by obtain⟨v,rfl,_⟩:=h;rfl
 one h u hu:=by obtain⟨v,rfl,h,_⟩:=h;exact(rSl r).one h u hu
 keep h hs hb hm:=by
  obtain⟨v,rfl,h,hr⟩:=h;refine⟨v,rfl,(rSl r).keep h hs hb hm,fun k hk=>?_⟩;obtain⟨h1,cur,h2⟩:=hr k hk;have hl:=(blt h2)
  exact⟨hm k h1 hl,cur,(hb k h1 hl).trans h2⟩
def RdSO {α:Type} (r:Rdr α) (t:TypeId) (w:World) (S:Nat->Prop) (v:Value) (xs:List α):Prop:=(rSlO r t).rd w S [v] xs
section
variable {α:Type}{r:Rdr α}{t:TypeId}{w w':World}{S S':Nat->Prop}{v:Value}{xs:List α}
theorem RdSO.kept (h:RdSO r t w S v xs) (hk:Keep S w w'):RdSO r t w' S v xs:=Rdr.kept h hk
theorem RdSO.ext (h:RdSO r t w S v xs) (hk:Ext w w'):RdSO r t w' S v xs:=Rdr.ext h hk
theorem RdSO.mono (h:RdSO r t w S v xs) (hs : ∀ k,S k->k<w.heap.size->S' k):RdSO r t w S' v xs:=Rdr.mono h hs
theorem RdSO.rd (h:RdSO r t w S v xs):RdS r w S v xs:=by
 obtain⟨v',e,h,_⟩:=h;obtain rfl:=List.singleton_inj.1 e;exact h
theorem RdSO.slice (h:RdSO r t w S v xs) : ∃ a cap,v = .slice a xs.length cap/\xs.length<=cap/\cap<=9223372036854775807:=h.rd.slice
theorem RdSO.nil (r:Rdr α) (t:TypeId) (w:World) (S:Nat->Prop):RdSO r t w S (.slice none 0 0) []:=⟨_,rfl,RdS.nil _ _ _,fun k hk=>by simp[Value.ownBlock]at hk⟩
theorem RdSO.upto {B:Nat} (h:RdSO r t w (fun k=>B<=k) v xs):RdSO r t w (fun k=>B<=k/\k<w.heap.size) v xs:=h.mono fun k hk hl=>⟨hk,hl⟩
theorem OwnS.row {base:Nat} (h:OwnS r t w base S v xs) (k:Nat) (hk:v.ownBlock=some k) : ∃ cur,w.heap[k]? = some (.cells cur t (0,0)):=by
 obtain⟨gs,rfl,⟨h1,h2⟩,h3,h4⟩:=h;rcases h2 with⟨h2,h2'⟩|⟨g',cap',cur,h2,hb,hg,hn,hm,hcs,hx⟩
 ·subst h2;simp[Value.ownBlock]at hk
 ·subst h2;simp only[Value.ownBlock,Option.map_some,Option.some.injEq]at hk;subst hk;exact⟨cur,hg⟩
theorem OwnS.rdO {base:Nat} (h:OwnS r t w base S v xs):RdSO r t w (fun k=>S k\/v.ownBlock=some k) v xs:=⟨v,rfl,h.rd,fun k hk=>⟨.inr hk,h.row k hk⟩⟩
theorem zsb {r':Rdr α} (hs:r.size=r'.size) (hw : ∀ {w S cs x},r.rd w S cs x->r'.rd w S cs x) {cs:List Value} (h:(rSl r).rd w S cs xs):(rSl r').rd w S cs xs:=by
 obtain⟨v,gs,rfl,rfl,h1,h2,h3⟩:=h;exact⟨v,gs,rfl,rfl,hs▸h1,h2,fun p hp=>hw (h3 p hp)⟩
theorem RdS.weak {r':Rdr α} (hs:r.size=r'.size) (hw : ∀ {w S cs x},r.rd w S cs x->r'.rd w S cs x) (h:RdS r w S v xs):RdS r' w S v xs:=zsb hs hw h
end
abbrev rFO:Rdr (List Fld):=rSlO rF 120
def rEO:Rdr Ev:=ke rS (ke rI rFO)
def rEntO:Rdr Ent:=ke rI (ke rS (ke rI rEO))
theorem zds:rEntO.size=6:=rfl
theorem zkf {w:World}{S:Nat->Prop}{cs:List Value}{x:Ev} (h:rEO.rd w S cs x):rE.rd w S cs x:=by
 obtain⟨c1,c2,rfl,h1,c3,c4,rfl,h2,h3⟩:=h;obtain⟨v,rfl,h4,_⟩:=h3;exact⟨c1,_,rfl,h1,c3,_,rfl,h2,h4⟩
theorem zdr {w:World}{S:Nat->Prop}{cs:List Value}{x:Ent} (h:rEntO.rd w S cs x):rEnt.rd w S cs x:=by
 obtain⟨c1,c2,rfl,h1,c3,c4,rfl,h2,c5,c6,rfl,h3,h4⟩:=h;exact⟨c1,_,rfl,h1,c3,_,rfl,h2,c5,_,rfl,h3,zkf h4⟩
abbrev RdEs (w:World) (S:Nat->Prop) (v:Value) (l:List Ev):Prop:=RdSO rEO 58 w S v l
theorem RdEs.read {w:World}{S:Nat->Prop}{v:Value}{l:List Ev} (h:RdEs w S v l):RdS rE w S v l:=RdS.weak (r:=rEO) rfl zkf (RdSO.rd h)
end
end Go.Proofs.YtnadlnmclameiaaGreatDoor
