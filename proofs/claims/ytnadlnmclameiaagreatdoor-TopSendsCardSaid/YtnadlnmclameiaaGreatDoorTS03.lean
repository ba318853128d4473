/- part 3 -/
import Derived.Test.YtnadlnmclameiaaGreatDoorTS02
import Derived.Deep.MidRow
import Derived.Deep.OwnRows
import Derived.Deep.Upon
import Derived.Great.BuildSlice
set_option maxRecDepth 100000
set_option maxHeartbeats 8000000
set_option linter.all false
namespace Go.Proofs.YtnadlnmclameiaaGreatDoor
section
open Go.RowKit
section
variable {P:Program}{ops:Array Oper}{Q:Exit->Act->World->Prop}{md:Region.Mode}{S:World->Prop}{F:List Nat}
def k8 (P:Program) (md:Region.Mode) (ops:Array Oper) (Q:Exit->Act->World->Prop) (S:World->Prop) (F:List Nat):Nat->Array Bool->Act->World->Prop
 | 0,listed,a,w=>Region.ready md ops listed=[]/\Q .normal a w
 | fuel+1,listed,a,w=>(Region.ready md ops listed=[]->Q .normal a w)/\
  ∀ i∈Region.ready md ops listed,wpOp P ops Q i (fun a' w'=>(F.contains i=false->S w')/\k8 P md ops Q S F fuel (listed.setIfInBounds i true) a' w') a w
theorem zdh : ∀ (fuel:Nat) (listed:Array Bool) (a:Act) (w:World),k8 P md ops Q S F fuel listed a w->wpAny P md ops Q fuel listed a w
 | 0,_,_,_,h=>h
 | fuel+1,_,_,_,h=>⟨h.1,fun i hi=>wpOp_mono (fun a' w' k=>zdh fuel _ a' w' k.2) (h.2 i hi)⟩
theorem zep {i j:Nat}{oj:Oper}{listed:Array Bool} (hui:listed.getD i true=false) (hall : ∀ e∈oj.after,Region.binds md e=true->listed.getD e.on false=true) : ∀ e∈oj.after,Region.binds md e=true->e.on≠i:=by
 intro e he hb heq;have k1:=hall e he hb;rw[heq]at k1;rcases Nat.lt_or_ge i listed.size with h'|h'
 ·simp[h']at hui k1;rw[hui]at k1;cases k1
 ·simp[Array.getElem?_eq_none h']at k1
theorem zjl {R:World->Prop}{G:Array Bool->Prop}{i:Nat}{oi:Oper}{v:Value} (hi:ops[i]? = some oi) (hsel : ∀ (j:Nat) (o:Oper) cs b,ops[j]? = some o->o.op≠ .select cs b)
  (hQ : ∀ c a w,Q (.panic c) (a.put oi.dst v) w->Q (.panic c) a w)
  (hG : ∀ (listed:Array Bool) (j:Nat),G listed->listed.getD i true=false->j∈Region.ready md ops listed->j≠i->G (listed.setIfInBounds j true)/\∀ w',(F.contains j=false->S w')->R w') (hRS:F.contains i=false->∀ w,R w->S w) :
  ∀ (fuel:Nat) (listed:Array Bool) (a:Act) (w:World),
   (∀ j oj,ops[j]? = some oj->j≠i->listed.getD j true=false->(∀ e∈oj.after,Region.binds md e=true->e.on≠i)->oi.apart ops oj=true)->
   i∈Region.ready md ops listed->G listed->YieldsIf P ops R oi v a->R w->
   k8 P md ops Q S F fuel (listed.setIfInBounds i true) (a.put oi.dst v) w->k8 P md ops Q S F (fuel+1) listed a w:=by
 intro fuel;induction fuel with
 | zero=>
  intro listed a w _ hr hg hy hS H;refine⟨fun h=>(by rw[h]at hr;cases hr),fun j hj=>?_⟩;by_cases hji:j=i
  ·subst hji;exact hy.wpOp hi hS ⟨fun h=>hRS h w hS,H⟩
  ·have h:=ready_mono hj hji;rw[H.1]at h;cases h
 | succ fuel ih=>
  intro listed a w hfree hr hg hy hS H;refine⟨fun h=>(by rw[h]at hr;cases hr),fun j hj=>?_⟩;by_cases hji:j=i
  ·subst hji;exact hy.wpOp hi hS ⟨fun h=>hRS h w hS,H⟩
  ·obtain⟨hun,oj,hoj,hall⟩:=mem_ready.1 hj;have hui:=(mem_ready.1 hr).1;have hni:=zep (j:=j) hui hall;obtain⟨g1,g2⟩:=hG listed j hg hui hj hji;have h2:=wpOp_putIf hoj (hfree j oj hoj hji hun hni) (fun cs b=>hsel i oi cs b hi) (fun cs b=>hsel j oj cs b hoj) hQ hy (H.2 j (ready_mono hj hji));refine wpOp_mono (fun a' w' h3=>⟨h3.2.1,ih (listed.setIfInBounds j true) a' w' (fun k ok hk hki huk hno=>?_) (ready_mono hr (Ne.symm hji)) g1 h3.1 (g2 w' h3.2.1) ?_⟩) h2
   ·refine hfree k ok hk hki ?_ hno;by_cases hjk:j=k
    ·subst hjk;exact hun
    ·rw[getD_set_ne true hjk]at huk;exact huk
   ·rw[Array.setIfInBounds_comm _ _ hji];exact h3.2.2
def zky (md:Region.Mode) (ops:Array Oper) (i:Nat):List Nat:=
 (List.range ops.size).foldl (fun D j=>match ops[j]? with
  | some o=>if o.after.any (fun e=>Region.binds md e && (e.on == i || D.contains e.on)) then D++[j] else D
  | none=>D) []
def zkv (md:Region.Mode) (ops:Array Oper) (F D:List Nat) (listed:Array Bool) (i:Nat):Bool:=
 (!F.contains i && F.all fun f=>D.contains f) && D.all fun f=> !(listed.getD f true) && match ops[f]? with
  | some o=>o.after.any fun e=>Region.binds md e && (e.on == i || D.contains e.on)
  | none=>true
theorem zh {i:Nat}{oi:Oper}{v:Value}{fuel:Nat}{listed:Array Bool}{a:Act}{w:World} (hi:ops[i]? = some oi)
  (hs:Region.noSelect ops=true) (hf:Region.free md ops listed i=true) (hr:(Region.ready md ops listed).contains i=true) (hF:zkv md ops F (zky md ops i) listed i=true)
  (hQ : ∀ c a w,Q (.panic c) (a.put oi.dst v) w->Q (.panic c) a w) (hy:YieldsIf P ops S oi v a) (hS:S w)
  (h:k8 P md ops Q S F fuel (listed.setIfInBounds i true) (a.put oi.dst v) w):k8 P md ops Q S F (fuel+1) listed a w:=by
 generalize zky md ops i=D at hF;unfold zkv at hF;rw[Bool.and_eq_true,Bool.and_eq_true,List.all_eq_true,List.all_eq_true]at hF;obtain⟨⟨hF0,hFD⟩,hF⟩:=hF;refine zjl (R:=S) (G:=fun L=>∀ f∈D,L.getD f true=false) hi (Region.noSelect_spec hs) hQ (fun L j hg hui hj hji=>?_) (fun _ w h=>h) fuel listed a w (Region.free_spec hi hf) (by simpa using hr) (fun f hf=>?_) hy hS h
 ·have hjD:j∉D:=by
   intro hm;obtain⟨hun,oj,hoj,hall⟩:=mem_ready.1 hj;have h1:=hF j hm;rw[hoj,Bool.and_eq_true]at h1;obtain⟨e,he,hb⟩:=Array.any_eq_true'.1 h1.2;simp only[Bool.and_eq_true,Bool.or_eq_true,beq_iff_eq]at hb;rcases hb.2 with h2|h2
   ·exact absurd h2 (zep (j:=j) hui hall e he hb.1)
   ·have h5:=hg e.on (by simpa using h2);exact absurd rfl (zep (j:=j) h5 hall e he hb.1)
  have hjF:F.contains j=false:=by
   cases hc:F.contains j with
   | false=>rfl
   | true=>exact absurd (by simpa using hFD j (by simpa using hc)) hjD
  refine⟨fun f hf=>?_,fun w' hw=>hw hjF⟩;have hne:j≠f:=fun e=>hjD (e▸hf);rw[getD_set_ne true hne];exact hg f hf
 ·have h1:=hF f hf;rw[Bool.and_eq_true]at h1;simpa using h1.1
theorem za (i:Nat) {oi:Oper}{v:Value}{fuel:Nat}{listed:Array Bool}{a:Act}{w:World} (hi:ops[i]? = some oi)
  (h:k8 P md ops Q S F fuel (listed.setIfInBounds i true) (a.put oi.dst v) w)
  (hs:Region.noSelect ops=true:=by as_aux_lemma=>kernel_rfl) (hf:Region.free md ops listed i=true:=by as_aux_lemma=>kernel_rfl) (hr:(Region.ready md ops listed).contains i=true:=by as_aux_lemma=>kernel_rfl) (hF:zkv md ops F (zky md ops i) listed i=true:=by as_aux_lemma=>kernel_rfl)
  (hQ : ∀ c a w,Q (.panic c) (a.put oi.dst v) w->Q (.panic c) a w:=by exact fun _ _ _ h=>h) (hw:Region.wanted oi (yielded ops a.tmps)=true:=by rfl)
  (hy : ∀ w,S w->(execOp a.eval oi).run P w = .ok (.value v) w:=by
   (intro wS hSw;(try dsimp only at hSw);(try simp only[tq0,tq1,tq2]);go_simp);(try with_reducible rfl)) (hS:S w:=by assumption):k8 P md ops Q S F (fuel+1) listed a w:=
 zh hi hs hf hr hF hQ (.inl ⟨hw,hy⟩) hS h
def AllT (P:Program) (md:Region.Mode) (ops:Array Oper) (Q:Exit->Act->World->Prop) (S:World->Prop) (F:List Nat) (fuel:Nat) (listed:Array Bool) (a:Act) (w:World) (rs:List Nat):Prop:=
 ∀ i∈rs,wpOp P ops Q i (fun a' w'=>(F.contains i=false->S w')/\k8 P md ops Q S F fuel (listed.setIfInBounds i true) a' w') a w
theorem AllT.nil {fuel:Nat}{listed:Array Bool}{a:Act}{w:World}:AllT P md ops Q S F fuel listed a w []:=fun _ h=>by cases h
theorem AllT.consF {fuel:Nat}{listed:Array Bool}{a:Act}{w:World}{i:Nat}{o:Oper}{rs:List Nat} (hi:ops[i]? = some o) (hF:F.contains i=true)
  (h : ∀ K:Act->World->Prop,Hid (∀ a' w',k8 P md ops Q S F fuel (listed.setIfInBounds i true) a' w'->K a' w')->if Region.wanted o (yielded ops a.tmps)=true then Oper.wp P o a w K Q else K (a.put o.dst undef) w)
  (hs:AllT P md ops Q S F fuel listed a w rs):AllT P md ops Q S F fuel listed a w (i :: rs):=fun j hj=>by
 rcases List.mem_cons.1 hj with rfl|hj
 ·exact wpOp_step hi (fun K hK=>h K (hid fun a' w' hW=>hK a' w' ⟨(fun h=>by rw[hF]at h;cases h),hW⟩))
 ·exact hs j hj
theorem AllT.consS {fuel:Nat}{listed:Array Bool}{a:Act}{w:World}{i:Nat}{o:Oper}{rs:List Nat} (hi:ops[i]? = some o)
  (h : ∀ K:Act->World->Prop,Hid (∀ a' w',S w'->(S w'->k8 P md ops Q S F fuel (listed.setIfInBounds i true) a' w')->K a' w')->if Region.wanted o (yielded ops a.tmps)=true then Oper.wp P o a w K Q else K (a.put o.dst undef) w)
  (hs:AllT P md ops Q S F fuel listed a w rs):AllT P md ops Q S F fuel listed a w (i :: rs):=fun j hj=>by
 rcases List.mem_cons.1 hj with rfl|hj
 ·exact wpOp_step hi (fun K hK=>h K (hid fun a' w' hS hW=>hK a' w' ⟨fun _=>hS,hW hS⟩))
 ·exact hs j hj
theorem ze {rs:List Nat}{fuel:Nat}{listed:Array Bool}{a:Act}{w:World} (hr:Region.ready md ops listed=rs) (hne:rs≠[])
  (h:AllT P md ops Q S F fuel listed a w rs):k8 P md ops Q S F (fuel+1) listed a w:=
 ⟨fun h0=>absurd (hr▸h0) hne,hr▸h⟩
theorem zn {listed:Array Bool}{a:Act}{w:World} (hr:Region.ready md ops listed=[]) (h:Q .normal a w) : ∀ fuel,k8 P md ops Q S F fuel listed a w
 | 0=>⟨hr,h⟩
 | _+1=>⟨fun _=>h,by rw[hr];simp⟩
theorem zr (S:World->Prop) (F:List Nat) {id:Nat}{a:Act}{w:World} (hm:P.follows .mixedOrders=true) (hS:S w.drew)
  (h:S w.drew->k8 P .any ops (NoPanic Q) S F ops.size (Array.replicate ops.size false) a w.drew):(Code.region id ops true).wp P Q a w:=
 wp_region_noPanic (wp_region_any hm (zdh _ _ _ _ (h hS)))
end
end
section
open Go.RowKit
theorem zyb {w:World}{base g n cap:Nat}{l:List UInt8} (h:OwnB w base (.slice (some ⟨g,0,none⟩) n cap) l) (j:Nat) (hj:j<l.length):w.cell? ⟨g,j,none⟩=some (.int .u8 (l[j].toNat:Int)):=by
 obtain⟨a,c,e,_,_,_,h4⟩:=zk h;simp only[Value.slice.injEq]at e;obtain⟨rfl,rfl,rfl⟩:=e;obtain⟨g',o,e,hg,hc⟩:=h4 (by omega);cases e;have:=hc j (by omega);rw[Nat.zero_add]at this;rw[this,zb1 l j hj]
theorem zj8 {w:World}{n cap:Nat}{a:Option Addr}{l:List UInt8} (h:RdB w (.slice a n cap) l) (j:Nat) (hj:j<l.length) : ∃ g o,a=some ⟨g,o,none⟩/\n=l.length/\g<w.heap.size/\w.cell? ⟨g,o+j,none⟩=some (.int .u8 (l[j].toNat:Int)):=by
 obtain⟨a,c,e,_,_,_,h4⟩:=h;simp only[Value.slice.injEq]at e;obtain⟨rfl,rfl,rfl⟩:=e;obtain⟨g',o,e,hg,hc⟩:=h4 (by omega);cases e;have:=hc j (by omega);refine⟨g',o,rfl,rfl,hg,?_⟩;rw[this,zb1 l j hj]
theorem Keep.ownB {S:Nat->Prop}{w w':World}{base:Nat}{v:Value}{l:List UInt8} (hk:Keep S w w') (h:OwnB w base v l) (hS : ∀ k,v.ownBlock=some k->S k):OwnB w' base v l:=zcc h fun k hb=>hk.block k (hS k hb) (h.lt k hb).2
end
section
open Go.RowKit Go.Maps
abbrev Bk:=List UInt8
def zb:Bk:=List.replicate 512 0
theorem zb_len:zb.length=512:=List.length_replicate
def rBk:Rdr Bk where
 size:=512
 rd _ _ cs x:=cs=bvs x/\x.length=512
 len h:=by rw[h.1];simpa[bvs] using h.2
 one h u hu:=by rw[h.1]at hu;exact qh _ u hu
 keep h _ _ _:=h
def zBk:Value:=.agg (Array.replicate 512 (.int .u8 0))
theorem zgz:(Tryz.prog.info? 85).map (fun i=>(i.zero,i.size,i.bytes))=some (some zBk,512,512):=by kernel_rfl
structure Dv where
 safe:List Bk
 pend:Int->List Bk
 fuse:Int
 down:Bool
 ops:Int
def kInt:KeyK Int where
 t:=3
 law:=int_keyed Tryz.underlying3
 val:=.int .i64
 lit n:=.int .i64 n
 ok n:= -9223372036854775808<=n/\n<=9223372036854775807
 key {x} h:=keyOf_int_mk Tryz.underlying3 (by
  show (decide (IntKind.i64.min<=x) && decide (x<=IntKind.i64.max))=true;rw[Bool.and_eq_true,decide_eq_true_eq,decide_eq_true_eq];exact h)
 inj {x y} h:=by cases h;rfl
def nilS:Value:=.slice none 0 0
inductive DRol where
 | dev|pmap|safe
 | row (n:Int)
structure DvP (w:World) (g:Nat) (ρ:Nat->Option DRol) (N:Nat) (d:Dv) (vs:Value) (gm:Nat) (m:Int->Option Value):Prop where
 head:w.heap[g]? = some (.cells #[vs,.map (some gm),.int .i64 d.fuse,.bool d.down,.int .i64 d.ops] 65 (0,0))
 rg:ρ g=some .dev
 safe:OwnS rBk 85 w 0 (fun _=>False) vs d.safe
 rsafe : ∀ k,vs.ownBlock=some k->ρ k=some .safe
 map:MapG kInt w gm N m
 rm:ρ gm=some .pmap
 pend : ∀ n,kInt.ok n->OwnS rBk 85 w 0 (fun _=>False) ((m n).getD nilS) (d.pend n)
 rpend : ∀ n,kInt.ok n->∀ k,((m n).getD nilS).ownBlock=some k->ρ k=some (.row n)
 has : ∀ n,kInt.ok n->((m n).isSome=true↔d.pend n≠[])
 rng : ∀ n,d.pend n≠[]->0<=n/\n<d.safe.length
 lt : ∀ k,ρ k≠none->k<w.heap.size
 size:64<=d.safe.length/\d.safe.length<=512
 fuse : -1<=d.fuse/\d.fuse<=9223372036854775807
 ops:0<=d.ops/\d.ops<=N
 long : ∀ n,(d.pend n).length<=N
def DvAt (w:World) (g:Nat) (ρ:Nat->Option DRol) (N:Nat) (d:Dv):Prop:=∃ vs gm m,DvP w g ρ N d vs gm m
section
variable {w w':World}{g:Nat}{ρ:Nat->Option DRol}{N:Nat}{d:Dv}{vs:Value}{gm:Nat}{m:Int->Option Value}
theorem DvP.keep (h:DvP w g ρ N d vs gm m) (hk:Keep (fun k=>ρ k≠none) w w'):DvP w' g ρ N d vs gm m:={ h with
 head:=by rw[hk.block g (by rw[h.rg];simp) (h.lt g (by rw[h.rg];simp))];exact h.head
 safe:=h.safe.kept (hk.mono fun k hs _=>by
  rcases hs with hs|hs
  ·exact hs.elim
  ·rw[h.rsafe k hs];simp)
 map:=h.map.kept hk (by rw[h.rm];simp)
 pend:=fun n hn=>(h.pend n hn).kept (hk.mono fun k hs _=>by
  rcases hs with hs|hs
  ·exact hs.elim
  ·rw[h.rpend n hn k hs];simp)
 lt:=fun k hr=>Nat.lt_of_lt_of_le (h.lt k hr) hk.size }
theorem DvP.ext (h:DvP w g ρ N d vs gm m) (hx:Ext w w'):DvP w' g ρ N d vs gm m:=h.keep (hx.keep _)
theorem DvAt.keep (h:DvAt w g ρ N d) (hk:Keep (fun k=>ρ k≠none) w w'):DvAt w' g ρ N d:=by
 obtain⟨vs,gm,m,h⟩:=h;exact⟨vs,gm,m,h.keep hk⟩
theorem DvAt.ext (h:DvAt w g ρ N d) (hx:Ext w w'):DvAt w' g ρ N d:=h.keep (hx.keep _)
theorem DvP.mono (h:DvP w g ρ N d vs gm m) {N':Nat} (hn:N<=N'):DvP w g ρ N' d vs gm m:={ h with
 map:=h.map.mono hn
 ops:=⟨h.ops.1,by have:=h.ops.2;omega⟩
 long:=fun n=>Nat.le_trans (h.long n) hn }
theorem DvAt.mono (h:DvAt w g ρ N d) {N':Nat} (hn:N<=N'):DvAt w g ρ N' d:=by
 obtain⟨vs,gm,m,h⟩:=h;exact⟨vs,gm,m,h.mono hn⟩
theorem DvP.glt (h:DvP w g ρ N d vs gm m):g<w.heap.size:=h.lt g (by rw[h.rg];simp)
theorem DvP.ne (h:DvP w g ρ N d vs gm m):g≠gm:=fun e=>by have:=h.rg;rw[e,h.rm]at this;simp at this
theorem DvP.nvs (h:DvP w g ρ N d vs gm m) (k:Nat) (hk:vs.ownBlock=some k):k≠g/\k≠gm:=⟨fun e=>by have:=h.rsafe k hk;rw[e,h.rg]at this;simp at this,fun e=>by have:=h.rsafe k hk;rw[e,h.rm]at this;simp at this⟩
theorem DvP.c0 (h:DvP w g ρ N d vs gm m):w.cell? ⟨g,0,none⟩=some vs:=(cr _ h.head)
theorem DvP.c1 (h:DvP w g ρ N d vs gm m):w.cell? ⟨g,1,none⟩=some (.map (some gm)):=(cr _ h.head)
theorem DvP.c2 (h:DvP w g ρ N d vs gm m):w.cell? ⟨g,2,none⟩=some (.int .i64 d.fuse):=(cr _ h.head)
theorem DvP.c3 (h:DvP w g ρ N d vs gm m):w.cell? ⟨g,3,none⟩=some (.bool d.down):=(cr _ h.head)
theorem DvP.c4 (h:DvP w g ρ N d vs gm m):w.cell? ⟨g,4,none⟩=some (.int .i64 d.ops):=(cr _ h.head)
theorem DvP.head' (h:DvP w g ρ N d vs gm m) (hk:Keep (fun k=>k≠g) w w') (hs:w'.heap.size=w.heap.size) (d':Dv) (N':Nat) (hn:N<=N') (e1:d'.safe=d.safe) (e2:d'.pend=d.pend) (hf : -1<=d'.fuse/\d'.fuse<=9223372036854775807) (ho:0<=d'.ops/\d'.ops<=N')
  (hh:w'.heap[g]? = some (.cells #[vs,.map (some gm),.int .i64 d'.fuse,.bool d'.down,.int .i64 d'.ops] 65 (0,0))):DvP w' g ρ N' d' vs gm m where
 head:=hh
 rg:=h.rg
 safe:=by
  rw[e1];exact h.safe.kept (hk.mono fun k hs _=>by
   rcases hs with hs|hs
   ·exact hs.elim
   ·exact(h.nvs k hs).1)
 rsafe:=h.rsafe
 map:=(h.map.kept hk (fun e=>h.ne e.symm)).mono hn
 rm:=h.rm
 pend:=fun n hn=>by
  rw[e2];exact(h.pend n hn).kept (hk.mono fun k hs _=>by
   rcases hs with hs|hs
   ·exact hs.elim
   ·intro e;have:=h.rpend n hn k hs;rw[e,h.rg]at this;simp at this)
 rpend:=h.rpend
 has:=by rw[e2];exact h.has
 rng:=by rw[e1,e2];exact h.rng
 lt:=by rw[hs];exact h.lt
 size:=by rw[e1];exact h.size
 fuse:=hf
 ops:=ho
 long:=fun n=>by rw[e2];exact Nat.le_trans (h.long n) hn
end
def zbs (n:Nat):Array Value:=madeCells (Array.replicate 512 (.int .u8 0)) (n*512)
theorem zrs (n:Nat):(zbs n).toList=List.replicate (n*512) (.int .u8 0):=by
 apply List.ext_getElem
 ·simp[zbs,madeCells]
 ·intro i h1 h2;simp only[zbs,madeCells,Array.toList_map,Array.toList_range,List.getElem_map,List.getElem_range,List.getElem_replicate,Array.size_replicate];rw[getElem!_pos _ _ (by simp;omega)];simp
theorem zw6 (n:Nat) (hn:n<=512) (w:World):(Instr.makeSlice 62 (.int .i64 n) (.int .i64 n)).run Tryz.prog w = .ok (.slice (some ⟨w.heap.size,0,none⟩) n n) (w.alloc (.cells (zbs n) 85)):=by
 obtain⟨i0,hi,hz0,hz1,hz2⟩:=info_parts zgz;have h:=run_make (P:=Tryz.prog) w 62 85 i0 _ Tryz.underlying62 hi hz0 .i64 .i64 n n (by omega) (Int.le_refl _) (by rw[hz2];omega) (by omega);rw[hz1]at h;exact h
theorem zmb {α:Type} (n:Nat) (cs:List Value) (x:α) (v:Value) (k:Nat) (h:cs=List.replicate k v):cellsOf (List.replicate n (cs,x))=List.replicate (n*k) v:=by
 subst h;induction n with
 | zero=>simp[cellsOf]
 | succ n ih=>rw[List.replicate_succ,cellsOf,List.flatMap_cons];rw[cellsOf]at ih;rw[ih,Nat.add_mul,Nat.one_mul,Nat.add_comm,<-List.replicate_append_replicate]
theorem zqy:bvs zb=List.replicate 512 (.int .u8 0):=by
 show (List.replicate 512 (0:UInt8)).map bv=_;rw[List.map_replicate];rfl
theorem zur {w:World}{g n:Nat} (hg:w.heap[g]? = some (.cells (zbs n) 85 (0,0))) (hn:n<=512):OwnS rBk 85 w 0 (fun _=>False) (.slice (some ⟨g,0,none⟩) n n) (List.replicate n zb):=by
 have hc:cellsOf (List.replicate n (bvs zb,zb))=List.replicate (n*512) (.int .u8 0):=zmb n _ _ _ 512 zqy;refine⟨List.replicate n (bvs zb,zb),by simp,⟨?_,.inr ⟨g,n,_,by simp,Nat.zero_le _,hg,by simp,by unfold maxLen;omega,?_,?_⟩⟩,fun k _ h=>h,fun p hp=>?_⟩
 ·rw[hc];simp[rBk]
 ·show (zbs n).size=n*512;simp[zbs,madeCells]
 ·rw[hc,zrs,List.length_replicate];exact List.take_of_length_le (by simp[rBk])
 ·obtain⟨_,rfl⟩:=List.mem_replicate.1 hp;exact⟨rfl,zb_len⟩
def dv0 (n:Nat):Dv:=⟨List.replicate n zb,fun _=>[],-1,false,0⟩
theorem zwn (w:World) (n:Nat) (h1:64<=n) (h2:n<=512) :
  Calls Tryz.prog 20 #[.int .i64 n] w fun e w'=>∃ g,e = .returned (.tuple #[.pointer (some ⟨g,0,none⟩),.int .i64 0])/\(∃ ρ,DvAt w' g ρ 0 (dv0 n)/\∀ k,ρ k≠none->w.heap.size<=k)/\Ext w w':=by
 have hmk:=fun W=>zw6 n h2 W;have hmm:= @run_makeMap Tryz.prog;have t1 : ¬ (n:Int)<64:=by omega
 have t2 : ¬ (512:Int)<n:=by omega
 go_enter Tryz.func20,Tryz.ntmps20;go_wp2_with fail;obtain⟨wa,hwa⟩ : ∃ wa,wa=w.alloc (.cells (zbs n) 85):=⟨_,rfl⟩
 obtain⟨wb,hwb⟩ : ∃ wb,wb=wa.alloc (.map #[] 0):=⟨_,rfl⟩
 obtain⟨wc,hwc⟩ : ∃ wc,wc=wb.alloc (.cells #[.slice (some ⟨w.heap.size,0,none⟩) n n,.map (some (w.heap.size+1)),.int .i64 (-1),.bool false,.int .i64 0] 65):=⟨_,rfl⟩
 have sa:wa.heap.size=w.heap.size+1:=by rw[hwa];simp
 have sb:wb.heap.size=w.heap.size+2:=by rw[hwb];simp[sa]
 have sc:wc.heap.size=w.heap.size+3:=by rw[hwc];simp[sb]
 have xa:Ext w wa:=by rw[hwa];exact(Ext.refl w).alloc _
 have xb:Ext wa wb:=by rw[hwb];exact(Ext.refl wa).alloc _
 have xc:Ext wb wc:=by rw[hwc];exact(Ext.refl wb).alloc _
 have mb:MapG kInt wc (w.heap.size+1) 0 (fun _=>none):=(show MapG kInt wb (w.heap.size+1) 0 (fun _=>none) by rw[hwb,<-sa];exact MapG.made kInt wa).ext xc;have ha:wc.heap[w.heap.size]? = some (.cells (zbs n) 85 (0,0)):=(Below.block (xb.trans xc) _ (by omega)).trans (by rw[hwa];exact heap_alloc_new _ _);have hr:wc.heap[w.heap.size+2]? = some (.cells #[.slice (some ⟨w.heap.size,0,none⟩) n n,.map (some (w.heap.size+1)),.int .i64 (-1),.bool false,.int .i64 0] 65 (0,0)):=by rw[hwc,<-sb];exact heap_alloc_new _ _
 rw[<-hwa,<-hwb,<-hwc];clear hwa hwb hwc;refine bodyPost_ret (v:=.tuple #[.pointer (some ⟨w.heap.size+2,0,none⟩),.int .i64 0]) (by simp[results,Tryz.results20,go_sem]) rfl ?_;refine⟨w.heap.size+2,rfl,⟨fun k=>if k=w.heap.size then some .safe else if k=w.heap.size+1 then some .pmap else if k=w.heap.size+2 then some .dev else none,⟨_,_,_,{
  head:=hr
  rg:=by simp
  safe:=zur ha h2
  rsafe:=fun k hk=>by
   simp only[Value.ownBlock,Option.some.injEq]at hk;simp[<-hk]
  map:=mb
  rm:=by simp
  pend:=fun s hs=>OwnS.nil _ _ _ _ _
  rpend:=fun s hs k hk=>by simp[nilS,Value.ownBlock]at hk
  has:=fun s hs=>by simp[dv0]
  rng:=fun s hs=>by simp[dv0]at hs
  lt:=fun k hk=>by
   try simp only at hk
   split at hk
   ·omega
   ·split at hk
    ·omega
    ·split at hk
     ·omega
     ·exact absurd rfl hk
  size:=by simp only[dv0,List.length_replicate];omega
  fuse:=by simp only[dv0];omega
  ops:=by simp only[dv0];omega
  long:=fun s=>by simp[dv0] }⟩,fun k hk=>?_⟩,(xa.trans xb).trans xc⟩
 try simp only at hk
 split at hk
 ·omega
 ·split at hk
  ·omega
  ·split at hk
   ·omega
   ·exact absurd rfl hk
open Go.RowKit Go.Maps
theorem zw {w:World}{g o:Nat}{c:Array Value}{t:TypeId}{f:Nat × Nat} (h:w.heap[g]? = some (.cells c t f)) (u:Value):(w.setCell ⟨g,o,none⟩ u).heap[g]? = some (.cells (c.setIfInBounds o u) t f):=by
 simp[World.setCell,Array.getElem?_modify,h]
theorem zg {w:World}{g:Nat}{c:Array Value}{t:TypeId} (h:w.heap[g]? = some (.cells c t (0,0))) (o:Nat):w.frozen? ⟨g,o,none⟩=false:=by simp[World.frozen?,h]
def zup (w:World) (g:Nat) (ρ:Nat->Option DRol) (N:Nat) (X:Int × Dv) (e:Ending) (w':World):Prop:=e = .returned (.int .i64 X.1)/\DvAt w' g ρ N X.2/\Keep (fun k=>k≠g) w w'
def opF (d:Dv) (n wrong:Int):Int × Dv:=
 if d.down=true then (2,d) else if n<0\/(d.safe.length:Int)<=n then (20,d) else if wrong≠0 then (wrong,d) else if d.fuse=0 then (2,{ d with down:=true }) else (0,{ d with fuse:=if 0<d.fuse then d.fuse-1 else d.fuse,ops:=d.ops+1 })
theorem zaz (w:World) (g:Nat) (ρ:Nat->Option DRol) (N:Nat) (d:Dv) (h:DvAt w g ρ N d) (hN:N<=1000000000) (n wrong:Int) (hn : -9223372036854775808<=n/\n<=9223372036854775807) (hw : -9223372036854775808<=wrong/\wrong<=9223372036854775807) :
  Calls Tryz.prog 155 #[.pointer (some ⟨g,0,none⟩),.int .i64 n,.int .i64 wrong] w (zup w g ρ (N+1) (opF d n wrong)):=by
 obtain⟨sf,pd,fu,dn,op⟩:=d;obtain⟨vs,gm,m,h⟩:=h;obtain⟨va,vc,rfl⟩:=h.safe.slice;have c0:=h.c0;have c2:=h.c2;have c3:=h.c3;have c4:=h.c4;have f2:=zg h.head 2;have f3:=zg h.head 3;have f4:=zg h.head 4;obtain⟨hf1,hf2⟩:=h.fuse;obtain⟨ho1,ho2⟩:=h.ops;obtain⟨hs1,hs2⟩:=h.size;obtain⟨hn1,hn2⟩:=hn;obtain⟨hw1,hw2⟩:=hw;have H:=hid h;clear h;dsimp only at c0 c2 c3 c4 hf1 hf2 ho1 ho2 hs1 hs2;have hstay:DvAt w g ρ (N+1) ⟨sf,pd,fu,dn,op⟩:=⟨_,gm,m,H.out.mono (Nat.le_succ N)⟩
 have HS:=hid hstay;clear hstay;cases dn
 ·by_cases h1:n<0\/(sf.length:Int)<=n
  ·have hop:=hid (show opF ⟨sf,pd,fu,false,op⟩ n wrong=(20,⟨sf,pd,fu,false,op⟩) by unfold opF;rw[if_neg (by simp),if_pos h1]);by_cases h2:n<0;all_goals
    try have h3:(sf.length:Int)<=n:=by omega
    clear h1;go_enter Tryz.func155,Tryz.ntmps155;go_wp2_with fail;go_ret;exact⟨by rw[hop.out];rfl,by rw[hop.out];exact HS.out,Keep.refl _ _⟩
  ·have h2 : ¬ n<0:=fun e=>h1 (.inl e);have h3 : ¬ (sf.length:Int)<=n:=fun e=>h1 (.inr e);by_cases h4:wrong=0
   ·subst h4;by_cases h5:fu=0
    ·subst h5;have hop:=hid (show opF ⟨sf,pd,0,false,op⟩ n 0=(2,⟨sf,pd,0,true,op⟩) by unfold opF;rw[if_neg (by simp),if_neg h1,if_neg (by simp),if_pos rfl]);clear h1;go_enter Tryz.func155,Tryz.ntmps155;go_wp2_with fail;go_ret;refine⟨by rw[hop.out];rfl,?_,(Keep.refl _ _).setCell (by simp) _⟩;rw[hop.out];exact⟨_,gm,m,H.out.head' ((Keep.refl _ _).setCell (by simp) _) (by simp) _ (N+1) (Nat.le_succ N) rfl rfl H.out.fuse ⟨ho1,by dsimp only;omega⟩ ((zw (o:=3) H.out.head (.bool true)).trans rfl)⟩
    ·have hop:=hid (show opF ⟨sf,pd,fu,false,op⟩ n 0=(0,⟨sf,pd,if 0<fu then fu-1 else fu,false,op+1⟩) by unfold opF;rw[if_neg (by simp),if_neg h1,if_neg (by simp),if_neg h5]);have ho3:IntKind.i64.wrap (op+1)=op+1:=by rw[IntKind.wrap_i64];omega
     clear h1;by_cases h6:0<fu
     ·have hfw:IntKind.i64.wrap (fu-1)=fu-1:=by rw[IntKind.wrap_i64];omega
      have e6:=hid (show (if 0<fu then fu-1 else fu)=fu-1 from if_pos h6);go_enter Tryz.func155,Tryz.ntmps155;go_wp2_with fail;go_ret;refine⟨by rw[hop.out];rfl,?_,((Keep.refl _ _).setCell (by simp) _).setCell (by simp) _⟩;rw[hop.out,e6.out];exact⟨_,gm,m,H.out.head' (((Keep.refl _ _).setCell (by simp) _).setCell (by simp) _) (by simp) _ (N+1) (Nat.le_succ N) rfl rfl ⟨by dsimp only;omega,by dsimp only;omega⟩ ⟨by dsimp only;omega,by dsimp only;omega⟩ ((zw (o:=4) (zw (o:=2) H.out.head (.int .i64 (fu-1))) (.int .i64 (op+1))).trans rfl)⟩
     ·have e6:=hid (show (if 0<fu then fu-1 else fu)=fu from if_neg h6);go_enter Tryz.func155,Tryz.ntmps155;go_wp2_with fail;go_ret;refine⟨by rw[hop.out];rfl,?_,(Keep.refl _ _).setCell (by simp) _⟩;rw[hop.out,e6.out];exact⟨_,gm,m,H.out.head' ((Keep.refl _ _).setCell (by simp) _) (by simp) _ (N+1) (Nat.le_succ N) rfl rfl H.out.fuse ⟨by dsimp only;omega,by dsimp only;omega⟩ ((zw (o:=4) H.out.head (.int .i64 (op+1))).trans rfl)⟩
   ·have hop:=hid (show opF ⟨sf,pd,fu,false,op⟩ n wrong=(wrong,⟨sf,pd,fu,false,op⟩) by unfold opF;rw[if_neg (by simp),if_neg h1,if_pos h4]);clear h1;go_enter Tryz.func155,Tryz.ntmps155;go_wp2_with fail;go_ret;exact⟨by rw[hop.out];rfl,by rw[hop.out];exact HS.out,Keep.refl _ _⟩
 ·have hop:=hid (show opF ⟨sf,pd,fu,true,op⟩ n wrong=(2,⟨sf,pd,fu,true,op⟩) by unfold opF;rw[if_pos rfl]);go_enter Tryz.func155,Tryz.ntmps155;go_wp2_with fail;go_ret;exact⟨by rw[hop.out];rfl,by rw[hop.out];exact HS.out,Keep.refl _ _⟩
def zaj (d:Dv) (k:Int):Int × Dv:=if d.down=true then (2,d) else (0,{ d with fuse:=max k (-1) })
section
variable {w:World}{g:Nat}{ρ:Nat->Option DRol}{N:Nat}{d:Dv}
theorem zlg (h:DvAt w g ρ N d) (k:Int) (hk : -9223372036854775808<=k/\k<=9223372036854775807) :
  Calls Tryz.prog 9 #[.pointer (some ⟨g,0,none⟩),.int .i64 k] w (zup w g ρ N (zaj d k)):=by
 obtain⟨sf,pd,fu,dn,op⟩:=d;obtain⟨vs,gm,m,h⟩:=h;have c3:=h.c3;have f2:=zg h.head 2;have c2:=h.c2;obtain⟨hk1,hk2⟩:=hk;have H:=hid h;clear h;dsimp only at c3 c2;cases dn
 ·by_cases h1:k < -1
  ·have hop:=hid (show zaj ⟨sf,pd,fu,false,op⟩ k=(0,⟨sf,pd,-1,false,op⟩) by unfold zaj;rw[if_neg (by simp),show max k (-1) = -1 by omega]);go_enter Tryz.func9,Tryz.ntmps9;go_wp2_with fail;go_ret;(try rw[show max k (-1) = -1 by omega]);refine⟨by rw[hop.out];rfl,?_,(Keep.refl _ _).setCell (by simp) _⟩;rw[hop.out];exact⟨_,gm,m,H.out.head' ((Keep.refl _ _).setCell (by simp) _) (by simp) _ N (Nat.le_refl N) rfl rfl ⟨by dsimp only;omega,by dsimp only;omega⟩ H.out.ops ((zw (o:=2) H.out.head (.int .i64 (-1))).trans rfl)⟩
  ·have hop:=hid (show zaj ⟨sf,pd,fu,false,op⟩ k=(0,⟨sf,pd,k,false,op⟩) by unfold zaj;rw[if_neg (by simp),show max k (-1)=k by omega]);go_enter Tryz.func9,Tryz.ntmps9;go_wp2_with fail;go_ret;(try rw[show max k (-1)=k by omega]);refine⟨by rw[hop.out];rfl,?_,(Keep.refl _ _).setCell (by simp) _⟩;rw[hop.out];exact⟨_,gm,m,H.out.head' ((Keep.refl _ _).setCell (by simp) _) (by simp) _ N (Nat.le_refl N) rfl rfl ⟨by dsimp only;omega,by dsimp only;omega⟩ H.out.ops ((zw (o:=2) H.out.head (.int .i64 k)).trans rfl)⟩
 ·have hop:=hid (show zaj ⟨sf,pd,fu,true,op⟩ k=(2,⟨sf,pd,fu,true,op⟩) by unfold zaj;rw[if_pos rfl]);go_enter Tryz.func9,Tryz.ntmps9;go_wp2_with fail;go_ret;exact⟨by rw[hop.out];rfl,by rw[hop.out];exact⟨_,gm,m,H.out⟩,Keep.refl _ _⟩
theorem zcl (h:DvAt w g ρ N d):Calls Tryz.prog 154 #[.pointer (some ⟨g,0,none⟩)] w fun e w'=>e = .returned (.bool d.down)/\w=w':=by
 obtain⟨vs,gm,m,h⟩:=h;have c3:=h.c3;clear h;go_enter Tryz.func154,Tryz.ntmps154;go_wp2_with fail;go_ret;exact⟨rfl,rfl⟩
theorem zbv (h:DvAt w g ρ N d):Calls Tryz.prog 104 #[.pointer (some ⟨g,0,none⟩)] w fun e w'=>e = .returned (.int .i64 d.safe.length)/\w=w':=by
 obtain⟨vs,gm,m,h⟩:=h;have c0:=h.c0;obtain⟨a,c,e⟩:=h.safe.slice;rw[e]at c0;clear h;go_enter Tryz.func104,Tryz.ntmps104;go_wp2_with fail;go_ret;exact⟨rfl,rfl⟩
end
open Go.RowKit Go.Maps
theorem zhl {α:Type} (r:Rdr α) {w:World}{o:Oper}{a:Act}{K:Act->World->Prop}{Q:Exit->Act->World->Prop} (s x:Operand) (ts tx t:TypeId) (z:Value) (bytes:Nat)
  (ho:o.op = .call { callee:=.builtin .append,args:=#[s,x],argTypes:=#[ts,tx] }) (hts:Tryz.prog.underlying ts=some (.slice t)) (hinfo:(Tryz.prog.info? t).map (fun i=>(i.zero,i.size,i.bytes))=some (some z,r.size,bytes)) (hzs:z.cells.size=r.size) (base:Nat) (S:Nat->Prop)
  (v:Value) (xs:List α) (hs:a.eval s=v) (happ:OwnS r t w base S v xs)
  (y:Value) (gs:List (List Value × α)) (hx:a.eval x=y) (hsrc:Src Tryz.prog r.size tx y gs.length (cellsOf gs) w) (hgs : ∀ p∈gs,r.rd w S p.1 p.2) (hSlt : ∀ k,S k->k<w.heap.size)
  (hbytes:(xs.length+gs.length)*bytes<=140737488355328) (h63:xs.length+gs.length<=9223372036854775807) (hbase:base<=w.heap.size)
  (h : ∀ v' w',OwnS r t w' base S v' (xs++gs.map (·.2))->w.grownBy w' v.ownBlock->(∀ k,v'.ownBlock=some k->v.ownBlock=some k\/w.heap.size<=k)->K (a.put o.dst v') w'):o.wp Tryz.prog a w K Q:=by
 obtain⟨i0,hi,hz0,hz1,hz2⟩:=info_parts hinfo;obtain⟨hs0,rfl,g2,gS,g3⟩:=happ;rw[List.length_map]at hbytes h63;refine ka s x ts tx ho base t i0 z r.size bytes hts hi hz0 hz1 hz2 hzs v hs0.length (cellsOf hs0) hs (.inl g2) (fun u hu=>by obtain⟨p,hp,hu⟩:=List.mem_flatMap.1 hu;exact r.one (g3 p hp) u hu) y gs.length (cellsOf gs) hx hsrc h63 hbytes hbase ?_;intro v' w' h1 h2 h3 h4 h5 h6;refine h v' w' ⟨hs0++gs,by simp,?_,fun k hk hSk=>?_,fun p hp=>?_⟩ h4 h6
 ·rw[List.length_append,show cellsOf (hs0++gs)=cellsOf hs0++cellsOf gs from by simp[cellsOf]];exact h3 g2
 ·rcases h6 k hk with hh|hh
  ·exact gS k hh hSk
  ·have:=hSlt k hSk;omega
 ·have all:r.rd w S p.1 p.2:=by
   rcases List.mem_append.1 hp with hp|hp
   ·exact g3 p hp
   ·exact hgs p hp
  exact r.keep all h4.size (fun k hk hl=>h4.block k hl (fun e=>gS k e.symm hk)) fun _ h _=>h
theorem zby {w:World}{gb:Nat}{cs:List Value}{t ts:TypeId}{size:Nat} (hts:Tryz.prog.underlying ts=some (.slice t)) (hrow:w.heap[gb]? = some (.cells cs.toArray t (0,0))) (h1 : ∀ u∈cs,u.oneCell'=true) (hl:cs.length=1*size):Src Tryz.prog size ts (.slice (some ⟨gb,0,none⟩) 1 1) 1 cs w:=by
 refine Src.ofSlice _ hts ⟨gb,0,none⟩ 1 1 cs hl (fun j u hu=>?_) h1;rw[show (⟨gb,0,none⟩:Addr).add j=⟨gb,j,none⟩ from by unfold Addr.add;split <;> simp_all,cell_of_row _ _ _ _ _ _ hrow];simpa using hu
theorem zoh (l:List Value) : ∀ (k:Nat) (cs:Array Value) (i:Nat),((l.zipIdx k).foldl (fun cs (x:Value × Nat)=>cs.setIfInBounds (0+x.2) x.1) cs).size=cs.size/\
  ((l.zipIdx k).foldl (fun cs (x:Value × Nat)=>cs.setIfInBounds (0+x.2) x.1) cs)[i]? = if k<=i/\i<k+l.length/\i<cs.size then l[i-k]? else cs[i]?:=by
 induction l with
 | nil=>intro k cs i;simp;omega
 | cons a l ih=>
  intro k cs i;rw[List.zipIdx_cons,List.foldl_cons];obtain⟨h1,h2⟩:=ih (k+1) (cs.setIfInBounds (0+k) a) i;refine⟨by rw[h1];simp,?_⟩;rw[h2,Array.size_setIfInBounds,Array.getElem?_setIfInBounds];by_cases e:i=k
  ·subst e;by_cases hi:i<cs.size
   ·simp[hi];intro h;omega
   ·simp[hi]
  ·by_cases h3:k+1<=i/\i<k+1+l.length/\i<cs.size
   ·rw[if_pos h3,if_pos (by simp only[List.length_cons];omega),show i-k=(i-(k+1))+1 by omega,List.getElem?_cons_succ]
   ·rw[if_neg h3,if_neg (by omega),if_neg (by simp only[List.length_cons];omega)]
theorem zta (cells arr:Array Value) (size:Nat) (h1:arr.size=size) (h2:cells.size=size):Instr.fill (fun i=>some (i*size,size)) cells [(0,.agg arr)]=some arr:=by
 have hc:(Value.agg arr).cells=arr:=rfl;simp only[Instr.fill,hc];rw[if_neg (by simp[h1,h2])];congr 1
 rw[<-Array.foldl_toList,Array.toList_zipIdx];apply Array.ext_getElem?;intro i;have:=(zoh arr.toList 0 cells i)
 simp only[Nat.zero_mul]at*;rw[this.2];by_cases hi:i<size
 ·rw[if_pos (by simp;omega)];simp
 ·rw[if_neg (by simp;omega),Array.getElem?_eq_none (by omega),Array.getElem?_eq_none (by omega)]
theorem zm6 (w:World) (b:Bk) (h:b.length=512):(Instr.buildSlice 62 1 #[(0,.agg (bvs b).toArray)]).run Tryz.prog w = .ok (.slice (some ⟨w.heap.size,0,none⟩) 1 1) (w.alloc (.cells (bvs b).toArray 85)):=by
 obtain⟨i0,hi,hz0,hz1,hz2⟩:=info_parts zgz;refine Go.run_buildSlice w 62 85 1 _ _ i0 _ Tryz.underlying62 hi hz0 (by rw[hz1];omega) (by rw[hz1];omega) ?_;rw[hz1];exact zta _ _ 512 (by simp[bvs,h]) (by simp)
theorem ze9 (w:World):(zeroValue 62).run Tryz.prog w = .ok (.slice none 0 0) w:=by kernel_rfl
def rolW (ρ:Nat->Option DRol) (v':Value) (n:Int):Nat->Option DRol:=fun k=>if v'.ownBlock=some k then some (.row n) else ρ k
def setP (f:Int->List Bk) (n:Int) (l:List Bk):Int->List Bk:=fun t=>if t=n then l else f t
theorem DvP.write {w wA wB w':World}{g:Nat}{ρ:Nat->Option DRol}{N:Nat}{d:Dv}{vs:Value}{gm:Nat}{m:Int->Option Value} (h:DvP w g ρ N d vs gm m) {n:Int} (hn:kInt.ok n) (hr:0<=n/\n<d.safe.length) {b:Bk}{v':Value}{N':Nat} (hl:(d.pend n).length<N') (hNN:N<=N') (hxA:Ext w wA)
  (ho:OwnS rBk 85 wB 0 (fun _=>False) v' (d.pend n++[b])) (hgB:wA.grownBy wB ((m n).getD nilS).ownBlock) (hv' : ∀ k,v'.ownBlock=some k->((m n).getD nilS).ownBlock=some k\/wA.heap.size<=k)
  (hm:MapG kInt w' gm N' (upd m n v')) (hg:wB.grownBy w' (some gm)) :
  DvP w' g (rolW ρ v' n) N' { d with pend:=setP d.pend n (d.pend n++[b]) } vs gm (upd m n v')/\Keep (fun k=>ρ k=none) w w'/\(∀ k,rolW ρ v' n k≠none->ρ k≠none\/w.heap.size<=k):=by
 have hkB:Keep (fun j=>¬ ((m n).getD nilS).ownBlock=some j) w wB:=(hxA.keep _).trans ((zl hgB).mono fun j hj _ e=>hj e.symm);have hkC:Keep (fun j=>j≠gm) wB w':=(zl hg).mono fun j hj _ e=>hj (Option.some.inj e);have hk:Keep (fun j=>¬ ((m n).getD nilS).ownBlock=some j/\j≠gm) w w':=(hkB.mono fun j hj _=>hj.1).trans (hkC.mono fun j hj _=>hj.2);have hold : ∀ k,ρ k≠none->ρ k≠some (.row n)->¬ v'.ownBlock=some k:=fun k h1 h2 e=>by
  rcases hv' k e with e'|e'
  ·exact h2 (h.rpend n hn k e')
  ·have:=h.lt k h1;have:=hxA.size;omega
 have hro : ∀ k r,ρ k=some r->(∀ e,r≠ .row e)->rolW ρ v' n k=some r/\(¬ ((m n).getD nilS).ownBlock=some k):=fun k r h1 h2=>by
  refine⟨?_,fun e=>?_⟩
  ·unfold rolW;rw[if_neg (hold k (by rw[h1];simp) (by rw[h1];intro e;exact h2 n (Option.some.inj e)))];exact h1
  ·have:=h.rpend n hn k e;rw[h1]at this;exact h2 n (Option.some.inj this)
 have hg0:=hro g _ h.rg (by simp);have hm0:=hro gm _ h.rm (by simp);have hvlt : ∀ k,v'.ownBlock=some k->k<w'.heap.size:=fun k hkk=>Nat.lt_of_lt_of_le (ho.lt k hkk).2 hkC.size;refine⟨{
  head:=by rw[hk.block g ⟨hg0.2,h.ne⟩ h.glt];exact h.head
  rg:=hg0.1
  safe:= ?_
  rsafe:=fun k hkk=>(hro k _ (h.rsafe k hkk) (by simp)).1
  map:=hm
  rm:=hm0.1
  pend:=fun t ht=>?_
  rpend:=fun t ht k hkk=>?_
  has:=fun t ht=>?_
  rng:=fun t ht=>?_
  lt:=fun k hr=>?_
  size:=h.size
  fuse:=h.fuse
  ops:=⟨h.ops.1,by have:=h.ops.2;dsimp only;omega⟩
  long:=fun t=>?_ },hk.mono fun k hr _=>⟨fun e=>by have:=h.rpend n hn k e;rw[hr]at this;simp at this,fun e=>by rw[e,h.rm]at hr;simp at hr⟩,fun k hr=>?_⟩
 ·exact h.safe.kept (hk.mono fun j hj _=>by
   rcases hj with hj|hj
   ·exact hj.elim
   ·have hj:=h.rsafe j hj;exact⟨(hro j _ hj (by simp)).2,fun e=>by rw[e,h.rm]at hj;simp at hj⟩)
 ·by_cases e:t=n
  ·subst e;rw[k9];simp only[setP,if_true,Option.getD_some];refine ho.kept (hkC.mono fun j hj _ e=>?_);subst e;rcases hj with hj|hj
   ·exact hj.elim
   ·rcases hv' _ hj with hj|hj
    ·exact hm0.2 hj
    ·have:=h.map.lt;have:=hxA.size;omega
  ·rw[xz _ _ e];simp only[setP,if_neg e];refine(h.pend t ht).kept (hk.mono fun j hj _=>?_);rcases hj with hj|hj
   ·exact hj.elim
   ·have h1:=h.rpend t ht j hj;refine⟨fun e'=>?_,fun e'=>by rw[e',h.rm]at h1;simp at h1⟩;have h2:=h.rpend n hn j e';rw[h1]at h2;simp only[Option.some.injEq,DRol.row.injEq]at h2;exact e h2
 ·by_cases e:t=n
  ·subst e;rw[k9]at hkk;simp only[Option.getD_some]at hkk;unfold rolW;rw[if_pos hkk]
  ·rw[xz _ _ e]at hkk;have h1:=h.rpend t ht k hkk;unfold rolW;rw[if_neg (hold k (by rw[h1];simp) (by rw[h1];intro e';simp only[Option.some.injEq,DRol.row.injEq]at e';exact e e'))];exact h1
 ·by_cases e:t=n
  ·subst e;rw[k9];simp[setP]
  ·rw[xz _ _ e];simp only[setP,if_neg e];exact h.has t ht
 ·by_cases e:t=n
  ·subst e;exact hr
  ·simp only[setP,if_neg e]at ht;exact h.rng t ht
 ·unfold rolW at hr;split at hr
  ·rename_i e;exact hvlt k e
  ·exact Nat.lt_of_lt_of_le (h.lt k hr) hk.size
 ·by_cases e:t=n
  ·subst e;simp only[setP,if_true,List.length_append,List.length_singleton];omega
  ·simp only[setP,if_neg e];exact Nat.le_trans (h.long t) hNN
 ·unfold rolW at hr;split at hr
  ·rename_i e
   rcases hv' k e with e'|e'
   ·left;rw[h.rpend n hn k e'];simp
   ·right;have:=hxA.size;omega
  ·exact .inl hr
theorem zf8 (d:Dv) (n wr:Int):(opF d n wr).2.safe=d.safe/\(opF d n wr).2.pend=d.pend:=by
 unfold opF;repeat' split
 all_goals exact⟨rfl,rfl⟩
theorem zgw {d:Dv}{n wr:Int} (h:(opF d n wr).1=0):wr=0/\0<=n/\n<d.safe.length:=by
 unfold opF at h;repeat' split at h
 all_goals(try simp only at h)
 all_goals omega
def zy (d:Dv) (n:Int) (data:List UInt8):Int × Dv:=
 if (opF d n (if data.length=512 then 0 else 21)).1=0 then (0,{ (opF d n (if data.length=512 then 0 else 21)).2 with pend:=setP d.pend n (d.pend n++[data]) }) else opF d n (if data.length=512 then 0 else 21)
def zhd (w:World) (g:Nat) (ρ:Nat->Option DRol) (N:Nat) (X:Int × Dv) (e:Ending) (w':World):Prop:=
 e = .returned (.int .i64 X.1)/\∃ ρ',DvAt w' g ρ' N X.2/\Keep (fun k=>ρ k=none) w w'/\∀ k,ρ' k≠none->ρ k≠none\/w.heap.size<=k
end
end Go.Proofs.YtnadlnmclameiaaGreatDoor
