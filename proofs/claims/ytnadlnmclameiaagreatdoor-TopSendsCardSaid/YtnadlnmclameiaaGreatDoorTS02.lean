/- part 2 -/
import Derived.Test.YtnadlnmclameiaaGreatDoorTS01
import Derived.Maps.OwnSet
import Derived.Deep.RegionHeld3
set_option maxRecDepth 100000
set_option maxHeartbeats 8000000
set_option linter.all false
namespace Go.Proofs.YtnadlnmclameiaaGreatDoor
section
open Go.RowKit
def Ext (w w':World):Prop:=Below w.heap.size w w'
theorem Ext.of {w w':World} (h:Below w.heap.size w w'):Ext w w':=h
theorem Ext.refl (w:World):Ext w w:=Below.refl _ _
theorem Ext.trans {a b c:World} (h:Ext a b) (k:Ext b c):Ext a c:=Below.trans h (Below.mono k h.size)
theorem Ext.snart {a b c:World} (k:Ext b c) (h:Ext a b):Ext a c:=h.trans k
theorem Ext.alloc {a w:World} (h:Ext a w) (o:Obj):Ext a (w.alloc o):=Below.alloc h h.size o
theorem Ext.drew {a w:World} (h:Ext a w):Ext a w.drew:=Below.drew h
theorem Ext.drewN {a w:World} (h:Ext a w) (n:Nat):Ext a (w.drewN n):=below_drewN h n
theorem Ext.setCell {a w:World} (h:Ext a w) {p:Addr} (hp:a.heap.size<=p.block) (u:Value):Ext a (w.setCell p u):=Below.setCell h hp u
theorem Ext.xt {a w:World} (h:Ext a w:=by
  (repeat (first|(with_reducible assumption)|exact Ext.refl _|refine Ext.alloc ?_ _|refine Ext.drew ?_|refine Ext.drewN ?_ _|(apply Ext.snart;(with_reducible assumption))))):Ext a w:=h
theorem Ext.grown {a w w':World}{row:Option Nat} (h:Ext a w) (hg:w.grownBy w' row) (hr : ∀ k,row=some k->a.heap.size<=k):Ext a w':=Below.grown h hg h.size hr
theorem Ext.step {a w w':World}{B:Nat} (h:Ext a w) (hb:Below B w w') (hB:a.heap.size<=B):Ext a w':=Below.trans h (Below.mono hb hB)
theorem Ext.size {a w:World} (h:Ext a w):a.heap.size<=w.heap.size:=Below.size h
theorem Ext.cellS {a w:World} (h:Ext a w) {p:Addr}{v:Value} (hc:a.cell? p=some v):w.cell? p=some v:=by
 rw[Below.cell h (World.block_lt_of_cell? _ _ hc)];exact hc
theorem RdB.nil (w:World):RdB w (.slice none 0 0) []:=Rd.nil _ _
theorem RdB.ext {w w':World}{v:Value}{l:List UInt8} (h:RdB w v l) (hx:Ext w w'):RdB w' v l:=h.below hx
theorem OwnB.ext {w w':World}{base:Nat}{v:Value}{l:List UInt8} (h:OwnB w base v l) (hx:Ext w w'):OwnB w' base v l:=zae h hx
theorem NewB.open {l:List UInt8}{w:World}{e:Ending}{w':World} (h:NewB l w e w') : ∃ v' X,X=l/\e = .returned v'/\OwnB w' w.heap.size v' X/\Below w.heap.size w w':=by
 obtain⟨v',h1,h2,h3⟩:=h;exact⟨v',l,rfl,h1,h2,h3⟩
structure Keep (S:Nat->Prop) (w w':World):Prop where
 os:w'.os=w.os
 tape:w'.tape=w.tape
 output:w'.output=w.output
 size:w.heap.size<=w'.heap.size
 block : ∀ k,S k->k<w.heap.size->w'.heap[k]? = w.heap[k]?
theorem Keep.refl (S:Nat->Prop) (w:World):Keep S w w:=⟨rfl,rfl,rfl,Nat.le_refl _,fun _ _ _=>rfl⟩
theorem Keep.trans {S:Nat->Prop}{a b c:World} (h:Keep S a b) (k:Keep S b c):Keep S a c:=
 ⟨k.os.trans h.os,k.tape.trans h.tape,k.output.trans h.output,Nat.le_trans h.size k.size,fun i hi hl=>(k.block i hi (Nat.lt_of_lt_of_le hl h.size)).trans (h.block i hi hl)⟩
theorem Keep.mono {S S':Nat->Prop}{w w':World} (h:Keep S w w') (hs : ∀ k,S' k->k<w.heap.size->S k):Keep S' w w':=⟨h.os,h.tape,h.output,h.size,fun k hk hl=>h.block k (hs k hk hl) hl⟩
theorem Keep.ext {w w':World} (h:Keep (fun _=>True) w w'):Ext w w':=⟨h.os,h.tape,h.output,h.size,fun k hk=>h.block k trivial hk⟩
theorem Ext.keep {w w':World} (h:Ext w w') (S:Nat->Prop):Keep S w w':=⟨h.os,h.tape,h.output,Below.size h,fun k _ hl=>Below.block h k hl⟩
theorem Keep.below {S:Nat->Prop}{w w':World} (h:Keep S w w') (B:Nat) (hB:B<=w.heap.size) (hS : ∀ k,k<B->S k):Below B w w':=⟨h.os,h.tape,h.output,h.size,fun k hk=>h.block k (hS k hk) (by omega)⟩
theorem zl {w w':World}{row:Option Nat} (h:w.grownBy w' row):Keep (fun k=>some k≠row) w w':=⟨h.os,h.tape,h.output,h.size,fun k hk hl=>h.block k hl hk⟩
theorem Keep.alloc {S:Nat->Prop}{a w:World} (h:Keep S a w) (o:Obj):Keep S a (w.alloc o):=h.trans (Ext.keep ((Ext.refl w).alloc o) S)
theorem Keep.drew {S:Nat->Prop}{a w:World} (h:Keep S a w):Keep S a w.drew:=h.trans (Ext.keep ((Ext.refl w).drew) S)
theorem Keep.setCell {S:Nat->Prop}{a w:World} (h:Keep S a w) {p:Addr} (hp : ¬ S p.block) (u:Value):Keep S a (w.setCell p u):=
 h.trans ⟨rfl,rfl,rfl,by simp[World.setCell],fun k hk hl=>Below.heap_setCell _ _ _ _ (fun e=>hp (e▸hk))⟩
theorem Keep.cell {S:Nat->Prop}{w w':World} (h:Keep S w w') {p:Addr}{v:Value} (hc:w.cell? p=some v) (hp:S p.block):w'.cell? p=some v:=by
 rw[World.cell?_of_block (w:=w) (h.block p.block hp (World.block_lt_of_cell? _ _ hc))];exact hc
structure Rdr (α:Type) where
 size:Nat
 rd:World->(Nat->Prop)->List Value->α->Prop
 len : ∀ {w S cs x},rd w S cs x->cs.length=size
 one : ∀ {w S cs x},rd w S cs x->∀ u∈cs,u.oneCell'=true
 keep : ∀ {w w' S S' cs x},rd w S cs x->w.heap.size<=w'.heap.size->(∀ k,S k->k<w.heap.size->w'.heap[k]? = w.heap[k]?)->(∀ k,S k->k<w.heap.size->S' k)->rd w' S' cs x
theorem Rdr.kept {α:Type}{r:Rdr α}{w w':World}{S:Nat->Prop}{cs:List Value}{x:α} (h:r.rd w S cs x) (hk:Keep S w w'):r.rd w' S cs x:=r.keep h hk.size hk.block fun _ h _=>h
theorem Rdr.ext {α:Type}{r:Rdr α}{w w':World}{S:Nat->Prop}{cs:List Value}{x:α} (h:r.rd w S cs x) (hk:Ext w w'):r.rd w' S cs x:=r.keep h hk.size (fun k _ hl=>Below.block hk k hl) fun _ h _=>h
theorem Rdr.mono {α:Type}{r:Rdr α}{w:World}{S S':Nat->Prop}{cs:List Value}{x:α} (h:r.rd w S cs x) (hs : ∀ k,S k->k<w.heap.size->S' k):r.rd w S' cs x:=r.keep h (Nat.le_refl _) (fun _ _ _=>rfl) hs
def rI:Rdr Int where
 size:=1
 rd _ _ cs n:=cs=[.int .i64 n]/\ -9223372036854775808<=n/\n<=9223372036854775807
 len h:=by rw[h.1];rfl
 one h u hu:=by rw[h.1]at hu;obtain rfl:=List.mem_singleton.1 hu;rfl
 keep h _ _ _:=h
def rBo:Rdr Bool where
 size:=1
 rd _ _ cs b:=cs=[.bool b]
 len h:=by rw[h];rfl
 one h u hu:=by rw[h]at hu;obtain rfl:=List.mem_singleton.1 hu;rfl
 keep h _ _ _:=h
def rS:Rdr ByteArray where
 size:=1
 rd _ _ cs s:=cs=[.string s]/\s.size<=9223372036854775807
 len h:=by rw[h.1];rfl
 one h u hu:=by rw[h.1]at hu;obtain rfl:=List.mem_singleton.1 hu;rfl
 keep h _ _ _:=h
theorem Rd.carry0 {w w':World}{size n:Nat}{v:Value}{xs:List Value} (h:Rd w size v n xs) (hs:w.heap.size<=w'.heap.size)
  (hb:0<n->∀ k,v.ownBlock=some k->k<w.heap.size->w'.heap[k]? = w.heap[k]?):Rd w' size v n xs:=by
 obtain⟨a,cap,rfl,h1,h2,h3,h4⟩:=h;refine⟨a,cap,rfl,h1,h2,h3,fun hn=>?_⟩;obtain⟨g,o,rfl,hg,hc⟩:=h4 hn;refine⟨g,o,rfl,by omega,fun j hj=>?_⟩;rw[zbe (hb hn g rfl hg),hc j hj]
theorem Rd.oneCell {w:World}{size n:Nat}{v:Value}{xs:List Value} (h:Rd w size v n xs):v.oneCell'=true:=by
 obtain⟨a,cap,rfl,_⟩:=h;rfl
def rBs:Rdr (List UInt8) where
 size:=1
 rd w S cs l:=∃ v,cs=[v]/\RdB w v l/\(0<l.length->∀ k,v.ownBlock=some k->S k)
 len h:=by obtain⟨v,rfl,_⟩:=h;rfl
 one h u hu:=by obtain⟨v,rfl,h,_⟩:=h;obtain rfl:=List.mem_singleton.1 hu;exact Rd.oneCell h
 keep h hs hb hm:=by
  obtain⟨v,rfl,h,hS⟩:=h;exact⟨v,rfl,Rd.carry0 h hs fun hn k hk hl=>hb k (hS hn k hk) hl,fun hn k hk=>hm k (hS hn k hk) (Rd.block_lt h hn k hk)⟩
def ke {α β:Type} (a:Rdr α) (b:Rdr β):Rdr (α × β) where
 size:=a.size+b.size
 rd w S cs x:=∃ c1 c2,cs=c1++c2/\a.rd w S c1 x.1/\b.rd w S c2 x.2
 len h:=by obtain⟨c1,c2,rfl,h1,h2⟩:=h;rw[List.length_append,a.len h1,b.len h2]
 one h u hu:=by
  obtain⟨c1,c2,rfl,h1,h2⟩:=h;rcases List.mem_append.1 hu with hu|hu
  ·exact a.one h1 u hu
  ·exact b.one h2 u hu
 keep h hs hb hm:=by
  obtain⟨c1,c2,rfl,h1,h2⟩:=h;exact⟨c1,c2,rfl,a.keep h1 hs hb hm,b.keep h2 hs hb hm⟩
def cellsOf {α:Type} (gs:List (List Value × α)):List Value:=gs.flatMap (·.1)
theorem za4 {α:Type} (gs:List (List Value × α)) (n:Nat) (h : ∀ g∈gs,g.1.length=n):(cellsOf gs).length=gs.length*n:=by
 induction gs with
 | nil=>simp[cellsOf]
 | cons g gs ih=>
  have:=ih fun g hg=>h g (by simp[hg]);have h0:=h g (by simp);simp only[cellsOf,List.flatMap_cons,List.length_append,List.length_cons]at this ⊢;rw[this,h0,Nat.add_mul];omega
theorem jv {α:Type} (gs:List (List Value × α)) (n:Nat):(∀ g∈gs,g.1.length=n)->∀ (i:Nat) (hi:i<gs.length) (j:Nat),j<n->(cellsOf gs)[i*n+j]? = gs[i].1[j]?:=by
 induction gs with
 | nil=>intro _ i hi;simp at hi
 | cons g gs ih=>
  intro h i hi j hj;have h0:=h g (by simp);have hc:cellsOf (g :: gs)=g.1++cellsOf gs:=by simp[cellsOf]
  rw[hc];cases i with
  | zero=>rw[Nat.zero_mul,Nat.zero_add,List.getElem?_append_left (by omega)];rfl
  | succ i=>
   rw[List.getElem?_append_right (by rw[h0,Nat.add_mul];omega),h0,show (i+1)*n+j-n=i*n+j from by rw[Nat.add_mul];omega];exact ih (fun g hg=>h g (by simp[hg])) i (by simpa using hi) j hj
def rSl {α:Type} (r:Rdr α):Rdr (List α) where
 size:=1
 rd w S cs xs:=∃ v gs,cs=[v]/\xs=gs.map (·.2)/\Rd w r.size v gs.length (cellsOf gs)/\(0<gs.length->∀ k,v.ownBlock=some k->S k)/\∀ p∈gs,r.rd w S p.1 p.2
 len h:=by obtain⟨v,gs,rfl,_⟩:=h;rfl
 one h u hu:=by obtain⟨v,gs,rfl,_,h,_⟩:=h;obtain rfl:=List.mem_singleton.1 hu;exact Rd.oneCell h
 keep h hs hb hm:=by
  obtain⟨v,gs,rfl,rfl,h,hS,hp⟩:=h;exact⟨v,gs,rfl,rfl,Rd.carry0 h hs fun hn k hk hl=>hb k (hS hn k hk) hl,fun hn k hk=>hm k (hS hn k hk) (Rd.block_lt h hn k hk),fun p hp'=>r.keep (hp p hp') hs hb hm⟩
def RdS {α:Type} (r:Rdr α) (w:World) (S:Nat->Prop) (v:Value) (xs:List α):Prop:=(rSl r).rd w S [v] xs
theorem RdS.kept {α:Type}{r:Rdr α}{w w':World}{S:Nat->Prop}{v:Value}{xs:List α} (h:RdS r w S v xs) (hk:Keep S w w'):RdS r w' S v xs:=Rdr.kept h hk
theorem RdS.ext {α:Type}{r:Rdr α}{w w':World}{S:Nat->Prop}{v:Value}{xs:List α} (h:RdS r w S v xs) (hk:Ext w w'):RdS r w' S v xs:=Rdr.ext h hk
theorem RdS.mono {α:Type}{r:Rdr α}{w:World}{S S':Nat->Prop}{v:Value}{xs:List α} (h:RdS r w S v xs) (hs : ∀ k,S k->k<w.heap.size->S' k):RdS r w S' v xs:=Rdr.mono h hs
theorem RdS.nil {α:Type} (r:Rdr α) (w:World) (S:Nat->Prop):RdS r w S (.slice none 0 0) []:=⟨_,[],rfl,rfl,Rd.nil _ _,fun h=>absurd h (by simp),by simp⟩
theorem RdS.slice {α:Type}{r:Rdr α}{w:World}{S:Nat->Prop}{v:Value}{xs:List α} (h:RdS r w S v xs) : ∃ a cap,v = .slice a xs.length cap/\xs.length<=cap/\cap<=9223372036854775807:=by
 obtain⟨v',gs,e,rfl,⟨a,cap,rfl,h1,h2,_⟩,_⟩:=h;obtain rfl:=List.singleton_inj.1 e;exact⟨a,cap,by rw[List.length_map],by rw[List.length_map];exact h1,by unfold maxLen at h2;omega⟩
theorem RdS.at {α:Type}{r:Rdr α}{w:World}{S:Nat->Prop}{v:Value}{xs:List α} (h:RdS r w S v xs) (i:Nat) (hi:i<xs.length) :
  ∃ g o cap cs,v = .slice (some ⟨g,o,none⟩) xs.length cap/\g<w.heap.size/\S g/\cs.length=r.size/\(∀ j u,cs[j]? = some u->w.cell? ⟨g,o+(i*r.size+j),none⟩=some u)/\r.rd w S cs xs[i]:=by
 obtain⟨v',gs,e,rfl,⟨a,cap,rfl,h1,h2,h3,h4⟩,hS,hp⟩:=h;obtain rfl:=List.singleton_inj.1 e;rw[List.length_map]at hi;obtain⟨g,o,rfl,hg,hc⟩:=h4 (by omega);have hlen : ∀ p∈gs,p.1.length=r.size:=fun p hp'=>r.len (hp p hp');have hmem:=List.getElem_mem hi;refine⟨g,o,cap,gs[i].1,by rw[List.length_map],hg,hS (by omega) g rfl,hlen _ hmem,fun j u hu=>?_,by rw[List.getElem_map];exact hp _ hmem⟩;have hj:j<r.size:=by rw[<-hlen _ hmem];exact(List.getElem?_eq_some_iff.1 hu).1
 rw[hc _ ?_,jv gs r.size hlen i hi j hj,hu];have:(i+1)*r.size<=gs.length*r.size:=Nat.mul_le_mul_right _ hi;rw[Nat.add_mul]at this;omega
theorem RdS.atS {w:World}{S:Nat->Prop}{v:Value}{xs:List ByteArray} (h:RdS rS w S v xs) (i:Nat) (hi:i<xs.length) :
  ∃ g o cap,v = .slice (some ⟨g,o,none⟩) xs.length cap/\g<w.heap.size/\S g/\w.cell? ⟨g,o+i,none⟩=some (.string xs[i])/\xs[i].size<=9223372036854775807:=by
 obtain⟨g,o,cap,cs,rfl,hg,hS,_,hc,rfl,hsz⟩:=h.at i hi;refine⟨g,o,cap,rfl,hg,hS,?_,hsz⟩;have:=hc 0 _ rfl;simpa[rS] using this
theorem RdS.atI {w:World}{S:Nat->Prop}{v:Value}{xs:List Int} (h:RdS rI w S v xs) (i:Nat) (hi:i<xs.length) :
  ∃ g o cap,v = .slice (some ⟨g,o,none⟩) xs.length cap/\g<w.heap.size/\S g/\w.cell? ⟨g,o+i,none⟩=some (.int .i64 xs[i])/\ -9223372036854775808<=xs[i]/\xs[i]<=9223372036854775807:=by
 obtain⟨g,o,cap,cs,rfl,hg,hS,_,hc,rfl,hsz⟩:=h.at i hi;refine⟨g,o,cap,rfl,hg,hS,?_,hsz⟩;have:=hc 0 _ rfl;simpa[rI] using this
theorem zxf {α:Type} (gs:List (List Value × α)) (n:Nat) (h : ∀ g∈gs,g.1.length=n) (l:Nat):cellsOf (gs.drop l)=(cellsOf gs).drop (l*n):=by
 induction l generalizing gs with
 | zero=>simp
 | succ l ih=>
  cases gs with
  | nil=>simp[cellsOf]
  | cons g gs=>
   rw[List.drop_succ_cons,ih gs (fun g hg=>h g (by simp[hg]))];have h0:=h g (by simp);have hc:cellsOf (g :: gs)=g.1++cellsOf gs:=by simp[cellsOf]
   rw[hc,show (l+1)*n=g.1.length+l*n from by rw[h0,Nat.add_mul];omega,<-List.drop_drop,List.drop_left]
theorem zux {α:Type} (gs:List (List Value × α)) (n:Nat) (h : ∀ g∈gs,g.1.length=n) (l:Nat):cellsOf (gs.take l)=(cellsOf gs).take (l*n):=by
 induction l generalizing gs with
 | zero=>simp[cellsOf]
 | succ l ih=>
  cases gs with
  | nil=>simp[cellsOf]
  | cons g gs=>
   have h0:=h g (by simp);have hc : ∀ gs,cellsOf (g :: gs)=g.1++cellsOf gs:=fun gs=>by simp[cellsOf]
   rw[List.take_succ_cons,hc,hc,ih gs (fun g hg=>h g (by simp[hg])),show (l+1)*n=g.1.length+l*n from by rw[h0,Nat.add_mul];omega,List.take_length_add_append]
theorem RdS.cut {α:Type}{r:Rdr α}{w:World}{S:Nat->Prop}{cap n:Nat}{ad:Option Addr}{xs:List α} (h:RdS r w S (.slice ad n cap) xs) (l hi:Nat) (h1:l<=hi) (h2:hi<=xs.length) :
  RdS r w S (.slice (yq ad cap l r.size) (hi-l) (cap-l)) ((xs.drop l).take (hi-l)):=by
 obtain⟨v',gs,e,rfl,h0,hS,hp⟩:=h;obtain rfl:=List.singleton_inj.1 e;have hlen : ∀ p∈gs,p.1.length=r.size:=fun p hp'=>r.len (hp p hp');rw[List.length_map]at h2;obtain⟨_,_,e,_⟩:=id h0;simp only[Value.slice.injEq]at e;obtain⟨rfl,rfl,rfl⟩:=e;have hc:=Rd.cut h0 l hi h1 h2;refine⟨_,(gs.drop l).take (hi-l),rfl,by rw[List.map_take,List.map_drop],?_,fun hn k hk=>?_,fun p hp'=>hp p (List.mem_of_mem_drop (List.mem_of_mem_take hp'))⟩
 ·rw[zux _ r.size (fun p hp'=>hlen p (List.mem_of_mem_drop hp')),zxf _ _ hlen,List.length_take,List.length_drop,Nat.min_eq_left (by omega)];exact hc
 ·rw[cutAt_block (n':=gs.length) (m':=cap)]at hk;exact hS (by rw[List.length_take,List.length_drop]at hn;omega) k hk
def OwnS {α:Type} (r:Rdr α) (t:TypeId) (w:World) (base:Nat) (S:Nat->Prop) (v:Value) (xs:List α):Prop:=
 ∃ gs:List (List Value × α),xs=gs.map (·.2)/\w.ownsRow base t r.size v gs.length (cellsOf gs)/\(∀ k,v.ownBlock=some k->¬ S k)/\∀ p∈gs,r.rd w S p.1 p.2
section
variable {α:Type}{r:Rdr α}{t:TypeId}{w w':World}{base:Nat}{S:Nat->Prop}{v:Value}{xs:List α}
theorem OwnS.nil (r:Rdr α) (t:TypeId) (w:World) (base:Nat) (S:Nat->Prop):OwnS r t w base S (.slice none 0 0) []:=⟨[],rfl,World.ownsRow_nil _ _ _ _,by simp[Value.ownBlock],by simp⟩
theorem OwnS.rd (h:OwnS r t w base S v xs):RdS r w (fun k=>S k\/v.ownBlock=some k) v xs:=by
 obtain⟨gs,rfl,h1,h2,h3⟩:=h;exact⟨v,gs,rfl,rfl,za9 h1,fun _ k hk=>.inr hk,fun p hp=>Rdr.mono (h3 p hp) fun k h _=>.inl h⟩
theorem OwnS.rdT (h:OwnS r t w base S v xs):RdS r w (fun _=>True) v xs:=h.rd.mono fun _ _ _=>trivial
theorem OwnS.slice (h:OwnS r t w base S v xs) : ∃ a c,v = .slice a xs.length c:=by obtain⟨a,c,e,_⟩:=h.rd.slice;exact⟨a,c,e⟩
theorem OwnS.lt (h:OwnS r t w base S v xs) (k:Nat) (hk:v.ownBlock=some k):base<=k/\k<w.heap.size:=by
 obtain⟨gs,rfl,h1,h2,h3⟩:=h;exact h1.lt k hk
theorem OwnS.kept (h:OwnS r t w base S v xs) (hk:Keep (fun k=>S k\/v.ownBlock=some k) w w'):OwnS r t w' base S v xs:=by
 obtain⟨gs,rfl,h1,h2,h3⟩:=h;exact⟨gs,rfl,zcc h1 fun k hb=>hk.block k (.inr hb) (h1.lt k hb).2,h2,fun p hp=>Rdr.kept (h3 p hp) (hk.mono fun k hS _=>.inl hS)⟩
theorem OwnS.ext (h:OwnS r t w base S v xs) (hk:Ext w w'):OwnS r t w' base S v xs:=h.kept (hk.keep _)
theorem OwnS.widen {S':Nat->Prop} (h:OwnS r t w base S v xs) (hs : ∀ k,S k->k<w.heap.size->S' k) (hb : ∀ k,v.ownBlock=some k->¬ S' k):OwnS r t w base S' v xs:=by
 obtain⟨gs,rfl,h1,h2,h3⟩:=h;exact⟨gs,rfl,h1,hb,fun p hp=>Rdr.mono (h3 p hp) hs⟩
theorem OwnS.low {base':Nat} (h:OwnS r t w base S v xs) (hb:base'<=base):OwnS r t w base' S v xs:=by
 obtain⟨gs,rfl,h1,h2,h3⟩:=h;exact⟨gs,rfl,j4 h1 hb,h2,h3⟩
end
theorem vw {α:Type} (r:Rdr α) {w:World}{ops:Array Oper}{rest:List Oper}{o:Oper}{a:Act}{Q:Exit->Act->World->Prop} (hgd:o.guard=none) (s x:Operand) (ts tx t:TypeId) (z:Value) (bytes:Nat)
  (ho:o.op = .call { callee:=.builtin .append,args:=#[s,x],argTypes:=#[ts,tx] }) (hts:Tryz.prog.underlying ts=some (.slice t)) (hinfo:(Tryz.prog.info? t).map (fun i=>(i.zero,i.size,i.bytes))=some (some z,r.size,bytes)) (hzs:z.cells.size=r.size) (base:Nat) (S:Nat->Prop)
  (v:Value) (xs:List α) (hs:a.eval s=v) (happ:OwnS r t w base S v xs)
  (y:Value) (gs:List (List Value × α)) (hx:a.eval x=y) (hsrc:Src Tryz.prog r.size tx y gs.length (cellsOf gs) w) (hgs : ∀ p∈gs,r.rd w S p.1 p.2) (hSlt : ∀ k,S k->k<w.heap.size)
  (hbytes:(xs.length+gs.length)*bytes<=140737488355328) (h63:xs.length+gs.length<=9223372036854775807) (hbase:base<=w.heap.size)
  (h : ∀ v' w',OwnS r t w' base S v' (xs++gs.map (·.2))->w.grownBy w' v.ownBlock->(∀ k,v'.ownBlock=some k->v.ownBlock=some k\/w.heap.size<=k)->wpList Tryz.prog ops Q rest (a.put o.dst v') w'):wpList Tryz.prog ops Q (o :: rest) a w:=by
 obtain⟨i0,hi,hz0,hz1,hz2⟩:=info_parts hinfo;obtain⟨hs0,rfl,g2,gS,g3⟩:=happ;rw[List.length_map]at hbytes h63;refine wpList_plain hgd fun _ hK=>ka s x ts tx ho base t i0 z r.size bytes hts hi hz0 hz1 hz2 hzs v hs0.length (cellsOf hs0) hs (.inl g2) (fun u hu=>by obtain⟨p,hp,hu⟩:=List.mem_flatMap.1 hu;exact r.one (g3 p hp) u hu) y gs.length (cellsOf gs) hx hsrc h63 hbytes hbase ?_;intro v' w' h1 h2 h3 h4 h5 h6;refine hK _ _ (h v' w' ⟨hs0++gs,by simp,?_,fun k hk hSk=>?_,fun p hp=>?_⟩ h4 h6)
 ·rw[List.length_append,show cellsOf (hs0++gs)=cellsOf hs0++cellsOf gs from by simp[cellsOf]];exact h3 g2
 ·rcases h6 k hk with hh|hh
  ·exact gS k hh hSk
  ·have:=hSlt k hSk;omega
 ·have all:r.rd w S p.1 p.2:=by
   rcases List.mem_append.1 hp with hp|hp
   ·exact g3 p hp
   ·exact hgs p hp
  exact r.keep all h4.size (fun k hk hl=>h4.block k hl (fun e=>gS k e.symm hk)) fun _ h _=>h
end
section
open Go.RowKit Go.Maps Go.WideShapes
def rawE (v:Value):Option (DataW Value × List MemPlace):=some (.held v,[])
theorem zca {v:Value}{y:DataW Value × List MemPlace} (h:rawE v=some y):y=(.held v,[]):=(Option.some.inj h).symm
structure KeyK (κ:Type) where
 t:TypeId
 law:Keyed Tryz.prog t
 val:κ->Value
 lit:κ->Lit
 ok:κ->Prop
 key : ∀ {x},ok x->keyOf Tryz.prog t (val x)=some (lit x)
 inj : ∀ {x y},lit x=lit y->x=y
def MapG {κ:Type} (q:KeyK κ) (w:World) (b n:Nat) (m:κ->Option Value):Prop:=
 ∃ D:DataW Value,w.ownsMap Tryz.prog q.t rawE b n D/\∀ x,q.ok x->(m x=none/\Maps.has D (q.lit x)=false)\/∃ v,m x=some v/\Maps.has D (q.lit x)=true/\∀ z,D.atKey (q.lit x) z = .held v
def upd {κ α:Type} [DecidableEq κ] (m:κ->Option α) (x:κ) (v:α):κ->Option α:=fun y=>if y=x then some v else m y
theorem k9 {κ α:Type} [DecidableEq κ] (m:κ->Option α) (x:κ) (v:α):upd m x v x=some v:=by simp[upd]
theorem xz {κ α:Type} [DecidableEq κ] (m:κ->Option α) {x y:κ} (v:α) (h:y≠x):upd m x v y=m y:=by simp[upd,h]
section
variable {κ:Type}{q:KeyK κ}{w w':World}{b n:Nat}{m:κ->Option Value}
theorem MapG.made (q:KeyK κ) (w:World):MapG q (w.alloc (.map #[] 0)) w.heap.size 0 (fun _=>none):=
 ⟨.map [],World.ownsMap_made w _ _ _,fun x _=>.inl ⟨rfl,rfl⟩⟩
theorem MapG.block (h:MapG q w b n m) (hb:w'.heap[b]? = w.heap[b]?):MapG q w' b n m:=by
 obtain⟨D,⟨es,clock,h1,h2,h3,h4⟩,h5⟩:=h;exact⟨D,⟨es,clock,hb.trans h1,h2,h3,h4⟩,h5⟩
theorem MapG.lt (h:MapG q w b n m):b<w.heap.size:=by obtain⟨D,h1,_⟩:=h;exact h1.lt
theorem MapG.kept {S:Nat->Prop} (h:MapG q w b n m) (hk:Keep S w w') (hs:S b):MapG q w' b n m:=h.block (hk.block b hs h.lt)
theorem MapG.ext (h:MapG q w b n m) (hk:Ext w w'):MapG q w' b n m:=h.block (Below.block hk b h.lt)
theorem MapG.mono (h:MapG q w b n m) {n':Nat} (hn:n<=n'):MapG q w b n' m:=by obtain⟨D,h1,h2⟩:=h;exact⟨D,h1.mono hn,h2⟩
theorem MapG.look {t e:TypeId} (h:MapG q w b n m) (ht:Tryz.prog.underlying t=some (.map q.t e)) {z:Value} (hz:(zeroValue e).run Tryz.prog w = .ok z w) {x:κ} (hx:q.ok x) :
  (Instr.lookup t (.map (some b)) (q.val x) false).run Tryz.prog w = .ok ((m x).getD z) w:=by
 obtain⟨D,h1,h2⟩:=h;obtain⟨v,ps,hrun,hv⟩:=h1.lookup q.law ht hz (zd:=.held z) (zp:=[]) rfl (q.key hx);have hv:=zca hv;simp only[Prod.mk.injEq]at hv;rcases h2 x hx with⟨e1,e2⟩|⟨u,e1,e2,e3⟩
 ·have:=atKey_of_not_has e2 (.held z);rw[this]at hv;have:=DataW.held.inj hv.1;rw[hrun,e1,<-this];rfl
 ·rw[e3]at hv;have:=DataW.held.inj hv.1;rw[hrun,e1,<-this];rfl
theorem MapG.look_ok {t e:TypeId} (h:MapG q w b n m) (ht:Tryz.prog.underlying t=some (.map q.t e)) {z:Value} (hz:(zeroValue e).run Tryz.prog w = .ok z w) {x:κ} (hx:q.ok x) :
  (Instr.lookup t (.map (some b)) (q.val x) true).run Tryz.prog w = .ok (.tuple #[(m x).getD z,.bool (m x).isSome]) w:=by
 obtain⟨D,h1,h2⟩:=h;obtain⟨v,ps,hrun,hv⟩:=h1.look_ok q.law ht hz (zd:=.held z) (zp:=[]) rfl (q.key hx);have hv:=zca hv;simp only[Prod.mk.injEq]at hv;rcases h2 x hx with⟨e1,e2⟩|⟨u,e1,e2,e3⟩
 ·have:=atKey_of_not_has e2 (.held z);rw[this]at hv;have:=DataW.held.inj hv.1;rw[hrun,e1,e2,<-this];rfl
 ·rw[e3]at hv;have:=DataW.held.inj hv.1;rw[hrun,e1,e2,<-this];rfl
theorem MapG.store [DecidableEq κ]{t e:TypeId} (h:MapG q w b n m) (ht:Tryz.prog.underlying t=some (.map q.t e)) (hn:n<maxLen) {x:κ} (hx:q.ok x) (v:Value) :
  ∃ w',(Instr.mapUpdate t (.map (some b)) (q.val x) v).run Tryz.prog w = .ok () w'/\MapG q w' b (n+1) (upd m x v)/\w.grownBy w' (some b)/\w'.heap.size=w.heap.size:=by
 obtain⟨D,h1,h2⟩:=h;obtain⟨w',hrun,h3,h4⟩:=h1.store q.law ht hn (q.key hx) (d:=.held v) (ps:=[]) rfl;have hkey:=q.law.key (q.key hx);refine⟨w',hrun,⟨_,h3,fun y hy=>?_⟩,h4.grown,?_⟩
 ·by_cases hyx:y=x
  ·subst hyx;exact .inr ⟨v,k9 _ _ _,has_put_same h1.isMap hkey _,fun z=>atKey_put_same h1.isMap hkey _ z⟩
  ·have hne:q.lit y≠q.lit x:=fun e=>hyx (q.inj e);rw[xz _ _ hyx];rcases h2 y hy with⟨e1,e2⟩|⟨u,e1,e2,e3⟩
   ·exact .inl ⟨e1,(has_put_other hne _).trans e2⟩
   ·exact .inr ⟨u,e1,(has_put_other hne _).trans e2,fun z=>(atKey_put_other hne _ z).trans (e3 z)⟩
 ·obtain⟨es,clock,es',clock',hb,rfl⟩:=h4;simp[ChangeMaps.setBlock]
end
end
section
open Go.RowKit
section
variable {P:Program}{ops:Array Oper}{Q:Exit->Act->World->Prop}{md:Region.Mode}{S:World->Prop}{m:Nat}
def jn (P:Program) (md:Region.Mode) (ops:Array Oper) (Q:Exit->Act->World->Prop) (S:World->Prop) (m:Nat):Nat->Array Bool->Act->World->Prop
 | 0,listed,a,w=>Region.ready md ops listed=[]/\Q .normal a w
 | fuel+1,listed,a,w=>(Region.ready md ops listed=[]->Q .normal a w)/\
  ∀ i∈Region.ready md ops listed,wpOp P ops Q i (fun a' w'=>(i≠m->S w')/\jn P md ops Q S m fuel (listed.setIfInBounds i true) a' w') a w
theorem zgn : ∀ (fuel:Nat) (listed:Array Bool) (a:Act) (w:World),jn P md ops Q S m fuel listed a w->wpAny P md ops Q fuel listed a w
 | 0,_,_,_,h=>h
 | fuel+1,_,_,_,h=>⟨h.1,fun i hi=>wpOp_mono (fun a' w' k=>zgn fuel _ a' w' k.2) (h.2 i hi)⟩
def zjh (md:Region.Mode) (ops:Array Oper) (m i:Nat):Bool:=match ops[m]? with
 | some o=>o.after.any fun e=>Region.binds md e && e.on == i
 | none=>true
theorem zjm {i:Nat}{oi:Oper}{v:Value} (hi:ops[i]? = some oi) (hsel : ∀ (j:Nat) (o:Oper) cs b,ops[j]? = some o->o.op≠ .select cs b)
  (hQ : ∀ c a w,Q (.panic c) (a.put oi.dst v) w->Q (.panic c) a w) (hm:zjh md ops m i=true) (him:i≠m) :
  ∀ (fuel:Nat) (listed:Array Bool) (a:Act) (w:World),
   (∀ j oj,ops[j]? = some oj->j≠i->listed.getD j true=false->(∀ e∈oj.after,Region.binds md e=true->e.on≠i)->oi.apart ops oj=true)->
   i∈Region.ready md ops listed->YieldsIf P ops S oi v a->S w->
   jn P md ops Q S m fuel (listed.setIfInBounds i true) (a.put oi.dst v) w->jn P md ops Q S m (fuel+1) listed a w:=by
 intro fuel;induction fuel with
 | zero=>
  intro listed a w _ hr hy hS H;refine⟨fun h=>(by rw[h]at hr;cases hr),fun j hj=>?_⟩;by_cases hji:j=i
  ·subst hji;exact hy.wpOp hi hS ⟨fun _=>hS,H⟩
  ·have h:=ready_mono hj hji;rw[H.1]at h;cases h
 | succ fuel ih=>
  intro listed a w hfree hr hy hS H;refine⟨fun h=>(by rw[h]at hr;cases hr),fun j hj=>?_⟩;by_cases hji:j=i
  ·subst hji;exact hy.wpOp hi hS ⟨fun _=>hS,H⟩
  ·obtain⟨hun,oj,hoj,hall⟩:=mem_ready.1 hj;have hni : ∀ e∈oj.after,Region.binds md e=true->e.on≠i:=by
    intro e he hb heq;have k1:=hall e he hb;have k0:=(mem_ready.1 hr).1;rw[heq]at k1;rcases Nat.lt_or_ge i listed.size with h'|h'
    ·simp[h']at k0 k1;rw[k0]at k1;cases k1
    ·simp[Array.getElem?_eq_none h']at k1
   have hjm:j≠m:=by
    intro e;subst e;unfold zjh at hm;rw[hoj]at hm;obtain⟨e,he,hb⟩:=Array.any_eq_true'.1 hm;simp only[Bool.and_eq_true,beq_iff_eq]at hb;exact hni e he hb.1 hb.2
   have h2:=wpOp_putIf hoj (hfree j oj hoj hji hun hni) (fun cs b=>hsel i oi cs b hi) (fun cs b=>hsel j oj cs b hoj) hQ hy (H.2 j (ready_mono hj hji));refine wpOp_mono (fun a' w' h3=>⟨h3.2.1,ih (listed.setIfInBounds j true) a' w' (fun k ok hk hki huk hno=>?_) (ready_mono hr (Ne.symm hji)) h3.1 (h3.2.1 hjm) ?_⟩) h2
   ·refine hfree k ok hk hki ?_ hno;by_cases hjk:j=k
    ·subst hjk;exact hun
    ·rw[getD_set_ne true hjk]at huk;exact huk
   ·rw[Array.setIfInBounds_comm _ _ hji];exact h3.2.2
theorem zax {i:Nat}{oi:Oper}{v:Value}{fuel:Nat}{listed:Array Bool}{a:Act}{w:World} (hi:ops[i]? = some oi)
  (hs:Region.noSelect ops=true) (hf:Region.free md ops listed i=true) (hr:(Region.ready md ops listed).contains i=true) (hm:(zjh md ops m i && i != m)=true)
  (hQ : ∀ c a w,Q (.panic c) (a.put oi.dst v) w->Q (.panic c) a w) (hy:YieldsIf P ops S oi v a) (hS:S w)
  (h:jn P md ops Q S m fuel (listed.setIfInBounds i true) (a.put oi.dst v) w):jn P md ops Q S m (fuel+1) listed a w:=by
 rw[Bool.and_eq_true,bne_iff_ne]at hm;exact zjm hi (Region.noSelect_spec hs) hQ hm.1 hm.2 fuel listed a w (Region.free_spec hi hf) (by simpa using hr) hy hS h
theorem zf (i:Nat) {oi:Oper}{v:Value}{fuel:Nat}{listed:Array Bool}{a:Act}{w:World} (hi:ops[i]? = some oi)
  (h:jn P md ops Q S m fuel (listed.setIfInBounds i true) (a.put oi.dst v) w)
  (hs:Region.noSelect ops=true:=by as_aux_lemma=>kernel_rfl) (hf:Region.free md ops listed i=true:=by as_aux_lemma=>kernel_rfl) (hr:(Region.ready md ops listed).contains i=true:=by as_aux_lemma=>kernel_rfl) (hm:(zjh md ops m i && i != m)=true:=by as_aux_lemma=>kernel_rfl)
  (hQ : ∀ c a w,Q (.panic c) (a.put oi.dst v) w->Q (.panic c) a w:=by exact fun _ _ _ h=>h) (hw:Region.wanted oi (yielded ops a.tmps)=true:=by rfl)
  (hy : ∀ w,S w->(execOp a.eval oi).run P w = .ok (.value v) w:=by
   (intro wS hSw;(try dsimp only at hSw);(try simp only[tq0,tq1,tq2]);go_simp);(try with_reducible rfl)) (hS:S w:=by assumption):jn P md ops Q S m (fuel+1) listed a w:=
 zax hi hs hf hr hm hQ (.inl ⟨hw,hy⟩) hS h
theorem tq0 {α:Type}{xs:List α}{i:Nat} (h:i<xs.toArray.size):xs.toArray[i]=xs[i]'(by simpa using h):=List.getElem_toArray h
theorem tq1 {α:Type} (a:α) (l:List α) (h:0<(a :: l).length):(a :: l)[0]=a:=rfl
theorem tq2 {α:Type} (a:α) (l:List α) (i:Nat) (h:i+1<(a :: l).length):(a :: l)[i+1]=l[i]'(by simpa using h):=rfl
theorem tq3 {α:Type} (l:List α) (i:Nat) (a:α):l.toArray.setIfInBounds i a=(l.set i a).toArray:=List.setIfInBounds_toArray l i a
theorem tq4 {α:Type}{x:α}{xs:List α}{a:α}:(x :: xs).set 0 a=a :: xs:=rfl
theorem tq5 {α:Type}{x:α}{xs:List α}{i:Nat}{a:α}:(x :: xs).set (i+1) a=x :: xs.set i a:=rfl
theorem qb {i:Nat}{o:Oper}{fuel:Nat}{listed:Array Bool}{a:Act}{w:World} (hr:Region.ready md ops listed=[i]) (hi:ops[i]? = some o)
  (h : ∀ K:Act->World->Prop,Hid (∀ a' w',(i≠m->S w')->((i≠m->S w')->jn P md ops Q S m fuel (listed.setIfInBounds i true) a' w')->K a' w')->if Region.wanted o (yielded ops a.tmps)=true then Oper.wp P o a w K Q else K (a.put o.dst undef) w) :
  jn P md ops Q S m (fuel+1) listed a w:=by
 refine⟨fun h0=>(by rw[h0]at hr;cases hr),fun j hj=>?_⟩;rw[hr]at hj;obtain rfl:=List.mem_singleton.1 hj;exact wpOp_step hi (fun K hK=>h K (hid fun a' w' hS hW=>hK a' w' ⟨hS,hW hS⟩))
theorem js {listed:Array Bool}{a:Act}{w:World} (hr:Region.ready md ops listed=[]) (h:Q .normal a w) : ∀ fuel,jn P md ops Q S m fuel listed a w
 | 0=>⟨hr,h⟩
 | _+1=>⟨fun _=>h,by rw[hr];simp⟩
theorem jr (S:World->Prop) (m:Nat) {id:Nat}{a:Act}{w:World} (hm:P.follows .mixedOrders=true) (hS:S w.drew)
  (h:S w.drew->jn P .any ops (NoPanic Q) S m ops.size (Array.replicate ops.size false) a w.drew):(Code.region id ops true).wp P Q a w:=
 wp_region_noPanic (wp_region_any hm (zgn _ _ _ _ (h hS)))
end
end
end Go.Proofs.YtnadlnmclameiaaGreatDoor
