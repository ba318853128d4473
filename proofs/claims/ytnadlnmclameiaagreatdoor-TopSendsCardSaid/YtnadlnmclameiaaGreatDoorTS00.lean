/- part 0 -/
import Derived.Laws.Rows
import Derived.Shelf.SlIter.Nil
import Derived.Shelf.SortM.Plain
import Derived.Shelf.SortM.SortNone
import Derived.Ground.GgzProg
import Derived.Ground.SlgmProg
import Derived.Test.YtnadlnmclameiaaGreatDoorChecked
import Derived.WalkKit
import Derived.WalkSpells
import Derived.WalkLawsBesides
import Derived.Deep.AppendSrc
set_option maxRecDepth 100000
set_option maxHeartbeats 8000000
set_option linter.all false
namespace Go.Proofs.YtnadlnmclameiaaGreatDoor
theorem cr {w:World}{g:Nat}{cs:Array Value}{t:TypeId}{fr:Nat × Nat}{o:Option Value}(k:Nat)(hg:w.heap[g]?=some (.cells cs t fr))(e:cs[k]?=o:=by rfl):w.cell? ⟨g,k,none⟩=o:=(Go.cell_of_row _ _ _ _ _ _ hg).trans e
theorem blt {α:Type}{xs:Array α}{i:Nat}{b:α}(h:xs[i]?=some b):i<xs.size:=(Array.getElem?_eq_some_iff.1 h).1
section
open Go.Shelf
def zes:Go.Shelf.Ren:=⟨fun|7=>133|10=>163|n=>n,fun|23=>148|26=>9|3=>167|28=>228|0=>0|27=>227|33=>114|4=>4|n=>n,fun|n=>n⟩
theorem zoc:Go.Proofs.SlLaysZ.n7 Tryz.prog zes:={
 mixed:=by kernel_rfl
 f7:=⟨Tryz.f133.name,by decide,Tryz.func133.trans (congrArg some (by kernel_rfl))⟩
 f10:=⟨Tryz.f163.name,by decide,Tryz.func163.trans (congrArg some (by kernel_rfl))⟩
 t0:=Tryz.underlying0
 a0:=Tryz.isAgg0
 z0:=Tryz.sizeOf0
 v0:=Tryz.zeroValue0
 t4:=Tryz.underlying4
 a4:=Tryz.isAgg4
 z4:=Tryz.sizeOf4
 v4:=Tryz.zeroValue4
 t23:=Tryz.underlying148
 a23:=Tryz.isAgg148
 z23:=Tryz.sizeOf148
 v23:=Tryz.zeroValue148
 t26:=Tryz.underlying9
 a26:=Tryz.isAgg9
 z26:=Tryz.sizeOf9
 v26:=Tryz.zeroValue9
 t27:=Tryz.underlying227
 a27:=Tryz.isAgg227
 z27:=Tryz.sizeOf227
 v27:=Tryz.zeroValue227
 t28:=Tryz.underlying228
 a28:=Tryz.isAgg228
 z28:=Tryz.sizeOf228
 v28:=Tryz.zeroValue228
 t33:=Tryz.underlying114
 a33:=Tryz.isAgg114
 z33:=Tryz.sizeOf114
 v33:=Tryz.zeroValue114 }
def zfx:Go.Shelf.Ren:=⟨fun|6=>132|8=>161|9=>162|11=>183|13=>148|12=>184|23=>179|24=>180|14=>195|15=>196|16=>197|17=>198|18=>199|19=>200|20=>201|21=>202|22=>203|25=>209|26=>190|27=>191|28=>210|29=>211|30=>212|31=>215|n=>n,fun|26=>9|28=>228|24=>225|0=>0|3=>3|37=>170|48=>172|50=>118|4=>4|40=>268|39=>267|45=>273|5=>5|9=>9|51=>284|55=>288|57=>298|58=>299|33=>114|n=>n,fun|n=>n⟩
theorem zmr:Go.Proofs.SlLaysZ.n6 Tryz.prog zfx:={
 mixed:=by kernel_rfl
 f6:=⟨Tryz.f132.name,by decide,Tryz.func132.trans (congrArg some (by kernel_rfl))⟩
 f8:=⟨Tryz.f161.name,by decide,Tryz.func161.trans (congrArg some (by kernel_rfl))⟩
 f11:=⟨Tryz.f183.name,by decide,Tryz.func183.trans (congrArg some (by kernel_rfl))⟩
 t0:=Tryz.underlying0
 a0:=Tryz.isAgg0
 z0:=Tryz.sizeOf0
 v0:=Tryz.zeroValue0
 t24:=Tryz.underlying225
 a24:=Tryz.isAgg225
 z24:=Tryz.sizeOf225
 v24:=Tryz.zeroValue225
 t26:=Tryz.underlying9
 a26:=Tryz.isAgg9
 z26:=Tryz.sizeOf9
 v26:=Tryz.zeroValue9
 t28:=Tryz.underlying228
 a28:=Tryz.isAgg228
 z28:=Tryz.sizeOf228
 v28:=Tryz.zeroValue228
 i26:=by kernel_rfl }
def zpr:Go.Shelf.Ren:=⟨fun|6=>162|8=>148|9=>184|19=>179|20=>180|21=>195|22=>196|23=>197|24=>198|25=>199|26=>200|27=>201|28=>202|29=>203|36=>209|31=>190|32=>191|37=>210|38=>211|39=>212|41=>215|n=>n,fun|27=>225|29=>9|3=>3|32=>170|26=>225|0=>0|44=>172|46=>118|4=>4|36=>268|35=>267|41=>273|5=>5|9=>9|53=>284|57=>288|63=>298|64=>299|n=>n,fun|n=>n⟩
theorem zua:Go.Proofs.SlLaysM.n6 Tryz.prog zpr:={
 mixed:=by kernel_rfl
 f6:=⟨Tryz.f162.name,by decide,Tryz.func162.trans (congrArg some (by kernel_rfl))⟩
 f8:=Tryz.func148.trans (congrArg some (by kernel_rfl))
 f9:=⟨Tryz.f184.name,by decide,Tryz.func184.trans (congrArg some (by kernel_rfl))⟩
 f19:=Tryz.func179.trans (congrArg some (by kernel_rfl))
 f20:=Tryz.func180.trans (congrArg some (by kernel_rfl))
 f21:=⟨Tryz.f195.name,by decide,Tryz.func195.trans (congrArg some (by kernel_rfl))⟩
 f22:=⟨Tryz.f196.name,by decide,Tryz.func196.trans (congrArg some (by kernel_rfl))⟩
 f23:=⟨Tryz.f197.name,by decide,Tryz.func197.trans (congrArg some (by kernel_rfl))⟩
 f24:=⟨Tryz.f198.name,by decide,Tryz.func198.trans (congrArg some (by kernel_rfl))⟩
 f25:=⟨Tryz.f199.name,by decide,Tryz.func199.trans (congrArg some (by kernel_rfl))⟩
 f26:=⟨Tryz.f200.name,by decide,Tryz.func200.trans (congrArg some (by kernel_rfl))⟩
 f27:=⟨Tryz.f201.name,by decide,Tryz.func201.trans (congrArg some (by kernel_rfl))⟩
 f28:=⟨Tryz.f202.name,by decide,Tryz.func202.trans (congrArg some (by kernel_rfl))⟩
 f29:=⟨Tryz.f203.name,by decide,Tryz.func203.trans (congrArg some (by kernel_rfl))⟩
 f31:=Tryz.func190.trans (congrArg some (by kernel_rfl))
 f32:=Tryz.func191.trans (congrArg some (by kernel_rfl))
 f36:=⟨Tryz.f209.name,by decide,Tryz.func209.trans (congrArg some (by kernel_rfl))⟩
 f37:=⟨Tryz.f210.name,by decide,Tryz.func210.trans (congrArg some (by kernel_rfl))⟩
 f38:=⟨Tryz.f211.name,by decide,Tryz.func211.trans (congrArg some (by kernel_rfl))⟩
 f39:=⟨Tryz.f212.name,by decide,Tryz.func212.trans (congrArg some (by kernel_rfl))⟩
 f41:=⟨Tryz.f215.name,by decide,Tryz.func215.trans (congrArg some (by kernel_rfl))⟩
 t0:=Tryz.underlying0
 a0:=Tryz.isAgg0
 z0:=Tryz.sizeOf0
 v0:=Tryz.zeroValue0
 t3:=Tryz.underlying3
 a3:=Tryz.isAgg3
 z3:=Tryz.sizeOf3
 v3:=Tryz.zeroValue3
 t4:=Tryz.underlying4
 a4:=Tryz.isAgg4
 z4:=Tryz.sizeOf4
 v4:=Tryz.zeroValue4
 t5:=Tryz.underlying5
 a5:=Tryz.isAgg5
 z5:=Tryz.sizeOf5
 v5:=Tryz.zeroValue5
 t9:=Tryz.underlying9
 a9:=Tryz.isAgg9
 z9:=Tryz.sizeOf9
 v9:=Tryz.zeroValue9
 t26:=Tryz.underlying225
 a26:=Tryz.isAgg225
 z26:=Tryz.sizeOf225
 v26:=Tryz.zeroValue225
 t27:=Tryz.underlying225
 a27:=Tryz.isAgg225
 z27:=Tryz.sizeOf225
 v27:=Tryz.zeroValue225
 t29:=Tryz.underlying9
 a29:=Tryz.isAgg9
 z29:=Tryz.sizeOf9
 v29:=Tryz.zeroValue9
 t32:=Tryz.underlying170
 a32:=Tryz.isAgg170
 z32:=Tryz.sizeOf170
 v32:=Tryz.zeroValue170
 t35:=Tryz.underlying267
 a35:=Tryz.isAgg267
 z35:=Tryz.sizeOf267
 v35:=Tryz.zeroValue267
 t36:=Tryz.underlying268
 a36:=Tryz.isAgg268
 z36:=Tryz.sizeOf268
 v36:=Tryz.zeroValue268
 t41:=Tryz.underlying273
 a41:=Tryz.isAgg273
 z41:=Tryz.sizeOf273
 v41:=Tryz.zeroValue273
 t44:=Tryz.underlying172
 a44:=Tryz.isAgg172
 z44:=Tryz.sizeOf172
 v44:=Tryz.zeroValue172
 t46:=Tryz.underlying118
 a46:=Tryz.isAgg118
 z46:=Tryz.sizeOf118
 v46:=Tryz.zeroValue118
 t53:=Tryz.underlying284
 a53:=Tryz.isAgg284
 z53:=Tryz.sizeOf284
 v53:=Tryz.zeroValue284
 t57:=Tryz.underlying288
 a57:=Tryz.isAgg288
 z57:=Tryz.sizeOf288
 v57:=Tryz.zeroValue288
 t63:=Tryz.underlying298
 a63:=Tryz.isAgg298
 z63:=Tryz.sizeOf298
 v63:=Tryz.zeroValue298
 t64:=Tryz.underlying299
 a64:=Tryz.isAgg299
 z64:=Tryz.sizeOf299
 v64:=Tryz.zeroValue299 }
end
section
open Go.RowKit
theorem hid {p:Prop} (h:p):Hid p:=h
theorem zbe {w w':World}{k:Nat} (h:w'.heap[k]? = w.heap[k]?) (o:Nat):w'.cell? ⟨k,o,none⟩=w.cell? ⟨k,o,none⟩:=
 World.cell?_of_block (a:=⟨k,o,none⟩) h
def Rd (w:World) (size:Nat) (v:Value) (n:Nat) (xs:List Value):Prop:=
 ∃ a cap,v = .slice a n cap/\n<=cap/\cap<=maxLen/\xs.length=n*size/\
  (0<n->∃ g o,a=some ⟨g,o,none⟩/\g<w.heap.size/\∀ j,j<n*size->w.cell? ⟨g,o+j,none⟩=xs[j]?)
theorem Rd.carry {w w':World}{size n:Nat}{v:Value}{xs:List Value} (h:Rd w size v n xs) (hs:w.heap.size<=w'.heap.size)
  (hb : ∀ k,v.ownBlock=some k->k<w.heap.size->w'.heap[k]? = w.heap[k]?):Rd w' size v n xs:=by
 obtain⟨a,cap,rfl,h1,h2,h3,h4⟩:=h;refine⟨a,cap,rfl,h1,h2,h3,fun hn=>?_⟩;obtain⟨g,o,rfl,hg,hc⟩:=h4 hn;refine⟨g,o,rfl,by omega,fun j hj=>?_⟩;rw[zbe (hb g rfl hg),hc j hj]
theorem Rd.below {w w':World}{size n:Nat}{v:Value}{xs:List Value} (h:Rd w size v n xs) (hb:Below w.heap.size w w'):Rd w' size v n xs:=
 h.carry hb.size fun k _ hk=>hb.block k hk
theorem Rd.alloc {w:World}{size n:Nat}{v:Value}{xs:List Value} (h:Rd w size v n xs) (o:Obj):Rd (w.alloc o) size v n xs:=
 h.below ((Below.refl _ _).alloc (Nat.le_refl _) o)
theorem Rd.drew {w:World}{size n:Nat}{v:Value}{xs:List Value} (h:Rd w size v n xs):Rd w.drew size v n xs:=
 h.below (Below.refl _ _).drew
theorem Rd.len {w:World}{size n:Nat}{v:Value}{xs:List Value} (h:Rd w size v n xs):xs.length=n*size:=by
 obtain⟨a,cap,rfl,h1,h2,h3,h4⟩:=h;exact h3
theorem Rd.nil (w:World) (size:Nat):Rd w size (.slice none 0 0) 0 []:=⟨none,0,rfl,Nat.le_refl _,Nat.zero_le _,by simp,fun h=>absurd h (Nat.lt_irrefl _)⟩
theorem Rd.block_lt {w:World}{size n:Nat}{v:Value}{xs:List Value} (h:Rd w size v n xs) (hn:0<n) (k:Nat) (hk:v.ownBlock=some k):k<w.heap.size:=by
 obtain⟨a,cap,rfl,h1,h2,h3,h4⟩:=h;obtain⟨g,o,rfl,hg,_⟩:=h4 hn;simp[Value.ownBlock]at hk;omega
theorem za9 {w:World}{base e size n:Nat}{v:Value}{xs:List Value} (h:w.ownsRow base e size v n xs):Rd w size v n xs:=by
 obtain⟨h1,h2⟩:=h;rcases h2 with⟨rfl,rfl⟩|⟨g,cap,cur,rfl,hb,hg,hnc,hcm,hcs,htake⟩
 ·exact⟨none,0,rfl,Nat.le_refl _,Nat.zero_le _,h1,fun h=>absurd h (Nat.lt_irrefl _)⟩
 ·refine⟨some ⟨g,0,none⟩,cap,rfl,hnc,hcm,h1,fun _=>⟨g,0,rfl,(blt hg),fun j hj=>?_⟩⟩;rw[Nat.zero_add,cell_of_row w g j cur e (0,0) hg,<-htake,List.getElem?_take];simp[hj]
def bv (b:UInt8):Value:=.int .u8 (b.toNat:Int)
def bvs (l:List UInt8):List Value:=l.map bv
@[simp] theorem zd4 (l:List UInt8):(bvs l).length=l.length:=by simp[bvs]
theorem zbu (l r:List UInt8):bvs (l++r)=bvs l++bvs r:=by simp[bvs]
theorem zd3 (l:List UInt8) (n:Nat):(bvs l).take n=bvs (l.take n):=by simp[bvs,List.map_take]
theorem zk0 (l:List UInt8) (n:Nat):(bvs l).drop n=bvs (l.drop n):=by simp[bvs,List.map_drop]
theorem qh (l:List UInt8) : ∀ u∈bvs l,u.oneCell'=true:=by
 intro u hu;obtain⟨b,_,rfl⟩:=List.mem_map.1 hu;rfl
theorem zb1 (l:List UInt8) (j:Nat) (h:j<l.length):(bvs l)[j]? = some (.int .u8 (l[j].toNat:Int)):=by simp[bvs,bv,h]
def RdB (w:World) (v:Value) (l:List UInt8):Prop:=Rd w 1 v l.length (bvs l)
theorem RdB.below {w w':World}{v:Value}{l:List UInt8} (h:RdB w v l) (hb:Below w.heap.size w w'):RdB w' v l:=Rd.below h hb
theorem RdB.alloc {w:World}{v:Value}{l:List UInt8} (h:RdB w v l) (o:Obj):RdB (w.alloc o) v l:=Rd.alloc h o
theorem RdB.drew {w:World}{v:Value}{l:List UInt8} (h:RdB w v l):RdB w.drew v l:=Rd.drew h
theorem Rd.sub {w:World}{size n cap:Nat}{a:Option Addr}{xs:List Value} (h:Rd w size (.slice a n cap) n xs) (lo hi mx:Nat) (h1:lo<=hi) (h2:hi<=n) (h3:hi<=mx) (h4:mx<=cap)
  (a':Option Addr) (ha : ∀ g o,a=some ⟨g,o,none⟩->lo<hi->a'=some ⟨g,o+lo*size,none⟩):Rd w size (.slice a' (hi-lo) (mx-lo)) (hi-lo) ((xs.drop (lo*size)).take ((hi-lo)*size)):=by
 obtain⟨a0,cap0,e,g1,g2,g3,g4⟩:=h;simp only[Value.slice.injEq,true_and]at e;obtain⟨rfl,rfl⟩:=e;have hm:hi*size<=n*size:=Nat.mul_le_mul_right _ h2;have hd:(hi-lo)*size=hi*size-lo*size:=Nat.sub_mul _ _ _;have hl:lo*size<=hi*size:=Nat.mul_le_mul_right _ h1;refine⟨a',mx-lo,rfl,by omega,by omega,?_,fun hn=>?_⟩
 ·rw[List.length_take,List.length_drop,g3];omega
 ·obtain⟨g,o,rfl,hg,hc⟩:=g4 (by omega);refine⟨g,o+lo*size,ha g o rfl (by omega),hg,fun j hj=>?_⟩;rw[Nat.add_assoc,hc _ (by omega),List.getElem?_take,if_pos hj,List.getElem?_drop]
def App (w:World) (base e size:Nat) (v:Value) (n:Nat) (xs:List Value):Prop:=
 w.ownsRow base e size v n xs\/(Rd w size v n xs/\∃ a,v = .slice a n n)
theorem App.rd {w:World}{base e size n:Nat}{v:Value}{xs:List Value} (h:App w base e size v n xs):Rd w size v n xs:=by
 rcases h with h|h
 ·exact za9 h
 ·exact h.1
theorem App.alloc {w:World}{base e size n:Nat}{v:Value}{xs:List Value} (h:App w base e size v n xs) (o:Obj):App (w.alloc o) base e size v n xs:=by
 rcases h with h|h
 ·exact .inl (h.alloc o)
 ·exact .inr ⟨h.1.alloc o,h.2⟩
theorem zgb {w:World}{base e size n cap:Nat}{a:Option Addr}{xs:List Value} (h:Rd w size (.slice a n cap) n xs):App w base e size (.slice a n n) n xs:=by
 refine .inr ⟨?_,a,rfl⟩;obtain⟨a0,cap0,e,g1,g2,g3,g4⟩:=h;simp only[Value.slice.injEq,true_and]at e;obtain⟨rfl,rfl⟩:=e;exact⟨a,n,rfl,Nat.le_refl _,by omega,g3,g4⟩
theorem zcc {w w':World}{base e size n:Nat}{v:Value}{xs:List Value} (h:w.ownsRow base e size v n xs)
  (hb : ∀ k,v.ownBlock=some k->w'.heap[k]? = w.heap[k]?):w'.ownsRow base e size v n xs:=by
 refine⟨h.1,?_⟩;rcases h.2 with hn|⟨g,cap,cur,rfl,hb',hgg,rest⟩
 ·exact .inl hn
 ·exact .inr ⟨g,cap,cur,rfl,hb',by rw[hb g rfl];exact hgg,rest⟩
theorem zqa {B:Nat}{w w':World}{base e size n:Nat}{v:Value}{xs:List Value} (h:w.ownsRow base e size v n xs) (hb:Below B w w') (hB : ∀ k,v.ownBlock=some k->k<B):w'.ownsRow base e size v n xs:=
 zcc h fun k hk=>hb.block k (hB k hk)
theorem zae {w w':World}{base e size n:Nat}{v:Value}{xs:List Value} (h:w.ownsRow base e size v n xs) (hb:Below w.heap.size w w'):w'.ownsRow base e size v n xs:=
 zqa h hb fun k hk=>(h.lt k hk).2
theorem j4 {w:World}{base base' e size n:Nat}{v:Value}{xs:List Value} (h:w.ownsRow base e size v n xs) (hb:base'<=base):w.ownsRow base' e size v n xs:=by
 refine⟨h.1,?_⟩;rcases h.2 with hn|⟨g,cap,cur,rfl,hb',rest⟩
 ·exact .inl hn
 ·exact .inr ⟨g,cap,cur,rfl,by omega,rest⟩
theorem zea {w w':World}{row:Option Nat} (h:w.grownBy w' row) (B:Nat) (hB:B<=w.heap.size) (hr : ∀ k,row=some k->B<=k):Below B w w':=
 ⟨h.os,h.tape,h.output,h.size,fun k hk=>h.block k (by omega) (fun e=>by have:=hr k e.symm;omega)⟩
theorem zb5 {P:Program}{size:Nat}{tx e':TypeId}{x:Value}{m:Nat}{news:List Value}{w:World} (hk:P.underlying tx=some (.slice e')) (h:Rd w size x m news) (h1 : ∀ u∈news,u.oneCell'=true):Src P size tx x m news w:=by
 obtain⟨a,cap,rfl,g1,g2,g3,g4⟩:=h;by_cases hm:0<m
 ·obtain⟨g,o,rfl,hg,hc⟩:=g4 hm;refine Src.ofSlice w hk ⟨g,o,none⟩ m cap news g3 (fun j u hu=>?_) h1;have hj:j<m*size:=by rw[<-g3];exact(List.getElem?_eq_some_iff.1 hu).1
  rw[show (⟨g,o,none⟩:Addr).add j=⟨g,o+j,none⟩ from by unfold Addr.add;split <;> simp_all,hc j hj,hu]
 ·obtain rfl:m=0:=by omega
  obtain rfl:news=[]:=List.eq_nil_of_length_eq_zero (by simpa using g3);cases a with
  | none=>exact Src.ofNil w hk cap
  | some a=>exact Src.ofSlice w hk a 0 cap [] (by simp) (by simp) (by simp)
theorem zjc {P:Program}{size:Nat}{n cap:Nat}{a:Option Addr}{xs:List Value}{w:World} (h:Rd w size (.slice a n cap) n xs) (_h1 : ∀ u∈xs,u.oneCell'=true) :
  (Builtin.firstCells size n (.slice a n cap)).run P w = .ok xs.toArray w:=by
 obtain⟨a0,cap0,e,g1,g2,g3,g4⟩:=h;simp only[Value.slice.injEq,true_and]at e;obtain⟨rfl,rfl⟩:=e;by_cases hm:0<n
 ·obtain⟨g,o,rfl,hg,hc⟩:=g4 hm;refine run_firstCells_some w size n ⟨g,o,none⟩ n cap xs g3 (fun j u hu=>?_);have hj:j<n*size:=by rw[<-g3];exact(List.getElem?_eq_some_iff.1 hu).1
  rw[show (⟨g,o,none⟩:Addr).add j=⟨g,o+j,none⟩ from by unfold Addr.add;split <;> simp_all,hc j hj,hu]
 ·obtain rfl:n=0:=by omega
  obtain rfl:xs=[]:=List.eq_nil_of_length_eq_zero (by simpa using g3);cases a with
  | none=>exact run_firstCells_none w size 0 0 cap
  | some a=>exact run_firstCells_some w size 0 a 0 cap [] (by simp) (by simp)
theorem zec {P:Program} (w:World) (t tx ty e:TypeId) (i:TypeInfo) (ht:P.underlying t=some (.slice e)) (hi:P.info? e=some i)
  (g sLen sCap:Nat) (cur:Array Value) (hg:w.heap[g]? = some (.cells cur e (0,0))) (x:Value) (m:Nat) (news:List Value) (hs:Src P i.size tx x m news w)
  (hroom:sLen+m<=sCap) (hfit:sLen*i.size+news.length<=cur.size) :
  (Builtin.append_ #[t,tx] ty #[.slice (some ⟨g,0,none⟩) sLen sCap,x]).run P w =
   .ok (.slice (some ⟨g,0,none⟩) (sLen+m) sCap) (w.setRow g (cur.toList.take (sLen*i.size)++news++cur.toList.drop (sLen*i.size+news.length)).toArray):=by
 have hst:=run_storeCells_at P g (sLen*i.size) e news 0 cur w hg (by simpa using hfit) hs.one;simp only[Nat.add_zero]at hst;rcases hs.kind with⟨e',hk⟩|hk <;> simp[Builtin.append_,run_underlying ht,run_underlying hk,sizeOf,typeInfo,hi,hs.len,hroom,hs.cells,Addr.add_lit,hst]
theorem zda {P:Program} (w:World) (base:Nat) (t tx ty e:TypeId) (i:TypeInfo) (z:Value) (size bytes:Nat) (ht:P.underlying t=some (.slice e)) (hi:P.info? e=some i) (hz:i.zero=some z)
  (hsize:i.size=size) (hby:i.bytes=bytes) (hzs:z.cells.size=size)
  (v:Value) (n:Nat) (xs:List Value) (happ:App w base e size v n xs) (h1xs : ∀ u∈xs,u.oneCell'=true)
  (x:Value) (m:Nat) (news:List Value) (hs:Src P size tx x m news w)
  (h63:n+m<=9223372036854775807) (hbytes:(n+m)*bytes<=140737488355328) (hbase:base<=w.heap.size) :
  ∃ v' w',(Builtin.append_ #[t,tx] ty #[v,x]).run P w = .ok v' w'/\App w' base e size v' (n+m) (xs++news)/\(0<m->w'.ownsRow base e size v' (n+m) (xs++news))/\
   (w.ownsRow base e size v n xs->w'.ownsRow base e size v' (n+m) (xs++news))/\w.grownBy w' v.ownBlock/\Below base w w'/\(∀ k,v'.ownBlock=some k->v.ownBlock=some k\/w.heap.size<=k):=by
 subst hsize;subst hby;have hlen:(xs++news).length=(n+m)*i.size:=by rw[List.length_append,happ.rd.len,hs.newsLen,Nat.add_mul]
 have grown : ∀ (old:Nat),old<n+m->
   (w.drew.alloc (.cells ((xs++news).toArray++Builtin.zeroCells z.cells (grownCap w (n+m) old e-(n+m))) e)).ownsRow base e i.size
    (.slice (some ⟨w.heap.size,0,none⟩) (n+m) (grownCap w (n+m) old e)) (n+m) (xs++news):=by
  intro old ho;have hge:=grownCap_ge w (n+m) old e;have hcm:grownCap w (n+m) old e<=maxLen:=grownCap_le_maxLen w (n+m) old e h63;refine⟨hlen,.inr ⟨w.heap.size,_,_,rfl,hbase,heap_alloc_new w.drew _,hge,hcm,?_,?_⟩⟩
  ·simp only[Array.size_append,List.size_toArray,size_zeroCells,hzs,hlen,<-Nat.add_mul];congr 1
   omega
  ·simp only[Array.toList_append];rw[<-hlen];exact List.take_left
 have gby : ∀ (c:Array Value) (row:Option Nat),w.grownBy (w.drew.alloc (.cells c e)) row:=fun c row=>⟨rfl,rfl,rfl,by simp,fun k hk _=>Below.heap_alloc w.drew _ k hk⟩
 have bel : ∀ (c:Array Value),Below base w (w.drew.alloc (.cells c e)):=fun c=>zea (gby c none) base hbase (by simp);have grow : ∀ a old,v = .slice a n old->old<n+m->∃ v' w',(Builtin.append_ #[t,tx] ty #[v,x]).run P w = .ok v' w'/\w'.ownsRow base e i.size v' (n+m) (xs++news)/\w.grownBy w' v.ownBlock/\Below base w w'/\v'.ownBlock=some w.heap.size:=by
  intro a old hv ho;subst hv;exact⟨_,_,run_append_grow_src w t tx ty e i z ht hi hz a n old xs (zjc happ.rd.drew h1xs) x m news hs ho (by omega) (growslice_fits (by omega) hbytes),grown old ho,gby _ _,bel _,rfl⟩
 rcases happ with hown|⟨hrd,a,hv⟩
 ·rcases hown.2 with⟨hv,hn⟩|⟨g,cap,cur,hv,hbg,hg,hnc,hcm,hcs,htake⟩
  ·by_cases hm:m=0
   ·subst hm;subst hn;subst hv;obtain rfl:xs=[]:=List.eq_nil_of_length_eq_zero (by simpa using hown.1);obtain rfl:news=[]:=List.eq_nil_of_length_eq_zero (by simpa using hs.newsLen);refine⟨.slice none 0 0,w,?_,.inl (World.ownsRow_nil w base e i.size),fun h=>absurd h (Nat.lt_irrefl _),fun _=>World.ownsRow_nil w base e i.size,⟨rfl,rfl,rfl,Nat.le_refl _,fun _ _ _=>rfl⟩,Below.refl _ _,by simp[Value.ownBlock]⟩;rcases hs.kind with⟨e',hk⟩|hk <;> simp[Builtin.append_,run_underlying ht,run_underlying hk,sizeOf,typeInfo,hi,hs.len,hs.cells]
   ·obtain⟨v',w',hr,h1,h2,h3,h4⟩:=grow none 0 (by rw[hv,hn]) (by omega);exact⟨v',w',hr,.inl h1,fun _=>h1,fun _=>h1,h2,h3,fun k hk=>.inr (by rw[h4]at hk;cases hk;exact Nat.le_refl _)⟩
  ·by_cases hroom:n+m<=cap
   ·subst hv;have hfit:n*i.size+news.length<=cur.size:=by rw[hs.newsLen,hcs,<-Nat.add_mul];exact Nat.mul_le_mul_right _ hroom
    have hr:=zec w t tx ty e i ht hi g n cap cur hg x m news hs hroom hfit;have ho:(w.setRow g (cur.toList.take (n*i.size)++news++cur.toList.drop (n*i.size+news.length)).toArray).ownsRow base e i.size (.slice (some ⟨g,0,none⟩) (n+m) cap) (n+m) (xs++news):=by
     refine⟨hlen,.inr ⟨g,cap,_,rfl,hbg,setRow_heap w g cur _ e _ hg,hroom,hcm,?_,?_⟩⟩
     ·simp only[List.size_toArray,List.length_append,List.length_take,List.length_drop,Array.length_toList];omega
     ·rw[htake,<-hlen];exact List.take_left
    have hgb:w.grownBy (w.setRow g (cur.toList.take (n*i.size)++news++cur.toList.drop (n*i.size+news.length)).toArray) (Value.slice (some ⟨g,0,none⟩) n cap).ownBlock:=
     ⟨rfl,rfl,rfl,by simp,fun k _ hk=>setRow_other w g k _ (fun e=>hk (by simp[Value.ownBlock,e]))⟩
    exact⟨_,_,hr,.inl ho,fun _=>ho,fun _=>ho,hgb,zea hgb base hbase (by simp[Value.ownBlock];omega),fun k hk=>.inl hk⟩
   ·obtain⟨v',w',hr,h1,h2,h3,h4⟩:=grow _ cap hv (by omega);exact⟨v',w',hr,.inl h1,fun _=>h1,fun _=>h1,h2,h3,fun k hk=>.inr (by rw[h4]at hk;cases hk;exact Nat.le_refl _)⟩
 ·by_cases hm:m=0
  ·subst hm;subst hv;obtain rfl:news=[]:=List.eq_nil_of_length_eq_zero (by simpa using hs.newsLen);have hr:(Builtin.append_ #[t,tx] ty #[.slice a n n,x]).run P w = .ok (.slice a n n) w:=by
    cases a with
    | none=>rcases hs.kind with⟨e',hk⟩|hk <;> simp[Builtin.append_,run_underlying ht,run_underlying hk,sizeOf,typeInfo,hi,hs.len,hs.cells]
    | some a=>rcases hs.kind with⟨e',hk⟩|hk <;> simp[Builtin.append_,run_underlying ht,run_underlying hk,sizeOf,typeInfo,hi,hs.len,hs.cells,storeCells]
   refine⟨_,_,hr,?_,fun h=>absurd h (Nat.lt_irrefl _),?_,⟨rfl,rfl,rfl,Nat.le_refl _,fun _ _ _=>rfl⟩,Below.refl _ _,fun k hk=>.inl hk⟩
   ·rw[Nat.add_zero,List.append_nil];exact .inr ⟨hrd,a,rfl⟩
   ·rw[Nat.add_zero,List.append_nil];exact id
  ·obtain⟨v',w',hr,h1,h2,h3,h4⟩:=grow a n hv (by omega);exact⟨v',w',hr,.inl h1,fun _=>h1,fun _=>h1,h2,h3,fun k hk=>.inr (by rw[h4]at hk;cases hk;exact Nat.le_refl _)⟩
theorem ka {P:Program}{w:World}{o:Oper}{a:Act}{K:Act->World->Prop}{Q:Exit->Act->World->Prop} (s x:Operand) (t tx:TypeId)
  (ho:o.op = .call { callee:=.builtin .append,args:=#[s,x],argTypes:=#[t,tx] })
  (base:Nat) (e:TypeId) (i:TypeInfo) (z:Value) (size bytes:Nat) (ht:P.underlying t=some (.slice e)) (hi:P.info? e=some i) (hz:i.zero=some z)
  (hsize:i.size=size) (hby:i.bytes=bytes) (hzs:z.cells.size=size)
  (v:Value) (n:Nat) (xs:List Value) (hs:a.eval s=v) (happ:App w base e size v n xs) (h1xs : ∀ u∈xs,u.oneCell'=true)
  (y:Value) (m:Nat) (news:List Value) (hx:a.eval x=y) (hsrc:Src P size tx y m news w)
  (h63:n+m<=9223372036854775807) (hbytes:(n+m)*bytes<=140737488355328) (hbase:base<=w.heap.size)
  (h : ∀ v' w',App w' base e size v' (n+m) (xs++news)->(0<m->w'.ownsRow base e size v' (n+m) (xs++news))->(w.ownsRow base e size v n xs->w'.ownsRow base e size v' (n+m) (xs++news))->
   w.grownBy w' v.ownBlock->Below base w w'->(∀ k,v'.ownBlock=some k->v.ownBlock=some k\/w.heap.size<=k)->K (a.put o.dst v') w'):o.wp P a w K Q:=by
 obtain⟨v',w',hr,h1,h2,h3,h4,h5,h6⟩:=zda (P:=P) w base t tx o.type e i z size bytes ht hi hz hsize hby hzs v n xs happ h1xs y m news hsrc h63 hbytes hbase;unfold Oper.wp execOp;simp only[ho,resolve,invoke,builtin,Sem.run_bind,Sem.run_pure,Result.andThen_ok,List.map_toArray,List.map_cons,List.map_nil,hs,hx,hr];exact h v' w' h1 h2 h3 h4 h5 h6
theorem yo {P:Program}{w:World}{ops:Array Oper}{rest:List Oper}{a:Act}{Q:Exit->Act->World->Prop}{dst:Option Tmp}{t ty:TypeId}{x:Operand}{lo hi mx:Option Operand}{pos:String}{after:Array Edge}{gd:Option (Nat × Bool)}
  (h:wpList P ops Q ({ dst:=dst,op:=.slice t x lo hi mx,type:=ty,pos:=pos,after:=after,guard:=gd } :: rest) a w):wpList P ops Q ({ dst:=dst,op:=.slice t x lo hi mx,type:=ty,pos:=pos,after:=after,guard:=gd } :: rest) a w:=h
theorem zvz {P:Program}{w:World}{ops:Array Oper}{rest:List Oper}{a:Act}{Q:Exit->Act->World->Prop}{dst:Option Tmp}{t ty:TypeId}{x:Operand}{pos:String}{after:Array Edge}{gd:Option (Nat × Bool)}
  (h:wpList P ops Q ({ dst:=dst,op:=.load t x,type:=ty,pos:=pos,after:=after,guard:=gd } :: rest) a w):wpList P ops Q ({ dst:=dst,op:=.load t x,type:=ty,pos:=pos,after:=after,guard:=gd } :: rest) a w:=h
theorem zk4 {P:Program}{w:World}{ops:Array Oper}{rest:List Oper}{a:Act}{Q:Exit->Act->World->Prop}{dst:Option Tmp}{t ty:TypeId}{x y:Operand}{pos:String}{after:Array Edge}{gd:Option (Nat × Bool)}
  (h:wpList P ops Q ({ dst:=dst,op:=.store t x y,type:=ty,pos:=pos,after:=after,guard:=gd } :: rest) a w):wpList P ops Q ({ dst:=dst,op:=.store t x y,type:=ty,pos:=pos,after:=after,guard:=gd } :: rest) a w:=h
theorem bd {P:Program}{w:World}{y:Nat->Option Bool}{a:Act}{K:Act->World->Prop}{Q:Exit->Act->World->Prop}{E:Prop}{dst:Option Tmp}{ty:TypeId}{xs:Array Operand}{ts:Array TypeId}{pos:String}{after:Array Edge}{gd:Option (Nat × Bool)}
  (h:if Region.wanted { dst:=dst,op:=.call { callee:=.builtin .append,args:=xs,argTypes:=ts },type:=ty,pos:=pos,after:=after,guard:=gd } y=true then Oper.wp P { dst:=dst,op:=.call { callee:=.builtin .append,args:=xs,argTypes:=ts },type:=ty,pos:=pos,after:=after,guard:=gd } a w K Q else E) :
  if Region.wanted { dst:=dst,op:=.call { callee:=.builtin .append,args:=xs,argTypes:=ts },type:=ty,pos:=pos,after:=after,guard:=gd } y=true then Oper.wp P { dst:=dst,op:=.call { callee:=.builtin .append,args:=xs,argTypes:=ts },type:=ty,pos:=pos,after:=after,guard:=gd } a w K Q else E:=h
theorem zd5 {P:Program} (w:World) (k:IntKind) (i:Int) (n y:Nat) (code:BoundsCode) (h:i=n) (hy:n<=y):(Instr.sliceBound (.int k i) y code).run P w = .ok n w:=by
 subst h;rw[run_sliceBound w k n y code (by omega) (by omega)];simp
def yq (ad:Option Addr) (cap l size:Nat):Option Addr:=if cap=l then ad else ad.map (·.add (l*size))
theorem cutAt_block {ad:Option Addr}{cap l size:Nat}{n m n' m':Nat}:(Value.slice (yq ad cap l size) n m).ownBlock=(Value.slice ad n' m').ownBlock:=by
 unfold yq;split
 ·cases ad <;> rfl
 ·cases ad <;> simp[Value.ownBlock,Addr.add];split <;> rfl
section
variable {P:Program}{w:World}{ops:Array Oper}{rest:List Oper}{o:Oper}{a:Act}{Q:Exit->Act->World->Prop}{t e:TypeId}{size:Nat}{x lo hi mx:Operand}{ad:Option Addr}{n cap:Nat}{k1 k2 k3:IntKind}{i1 i2 i3:Int}
theorem zc0 (hgd:o.guard=none) (ho:o.op = .slice t x (some lo) (some hi) none) (ht:P.underlying t=some (.slice e)) (hz:(P.info? e).map (·.size)=some size)
  (hx:a.eval x = .slice ad n cap) (h1:a.eval lo = .int k1 i1) (h2:a.eval hi = .int k2 i2) (l h:Nat) (e1:i1=l) (e2:i2=h) (b1:l<=h) (b2:h<=cap)
  (K:wpList P ops Q rest (a.put o.dst (.slice (yq ad cap l size) (h-l) (cap-l))) w):wpList P ops Q (o :: rest) a w:=by
 refine wpList_plain hgd fun _ hK=>?_;obtain⟨i,hi',hs⟩:=Option.map_eq_some_iff.1 hz;unfold Oper.wp execOp;simp only[ho,Sem.run_bind,Sem.run_pure,Result.andThen_ok,Option.map_some,Option.map_none,hx,h1,h2,Instr.sliceAt,Instr.slice,run_underlying ht,Instr.sliceBounds,zd5 w k2 i2 h cap _ e2 b2,zd5 w k1 i1 l h _ e1 b1,sizeOf,typeInfo];simp only[show (program:Sem Program) = .program .pure from rfl,Sem.run,hi',Sem.run_pure,Result.andThen_ok,hs];exact hK _ _ K
theorem yf (hgd:o.guard=none) (ho:o.op = .slice t x (some lo) none none) (ht:P.underlying t=some (.slice e)) (hz:(P.info? e).map (·.size)=some size)
  (hx:a.eval x = .slice ad n cap) (h1:a.eval lo = .int k1 i1) (l:Nat) (e1:i1=l) (b1:l<=n)
  (K:wpList P ops Q rest (a.put o.dst (.slice (yq ad cap l size) (n-l) (cap-l))) w):wpList P ops Q (o :: rest) a w:=by
 refine wpList_plain hgd fun _ hK=>?_;obtain⟨i,hi',hs⟩:=Option.map_eq_some_iff.1 hz;unfold Oper.wp execOp;simp only[ho,Sem.run_bind,Sem.run_pure,Result.andThen_ok,Option.map_some,Option.map_none,hx,h1,Instr.sliceAt,Instr.slice,run_underlying ht,Instr.sliceBounds,zd5 w k1 i1 l n _ e1 b1,sizeOf,typeInfo];simp only[show (program:Sem Program) = .program .pure from rfl,Sem.run,hi',Sem.run_pure,Result.andThen_ok,hs];exact hK _ _ K
theorem zng (hgd:o.guard=none) (ho:o.op = .slice t x none (some hi) none) (ht:P.underlying t=some (.slice e)) (hz:(P.info? e).map (·.size)=some size)
  (hx:a.eval x = .slice ad n cap) (h2:a.eval hi = .int k2 i2) (h:Nat) (e2:i2=h) (b2:h<=cap)
  (K:wpList P ops Q rest (a.put o.dst (.slice (yq ad cap 0 size) (h-0) (cap-0))) w):wpList P ops Q (o :: rest) a w:=by
 refine wpList_plain hgd fun _ hK=>?_;obtain⟨i,hi',hs⟩:=Option.map_eq_some_iff.1 hz;unfold Oper.wp execOp;simp only[ho,Sem.run_bind,Sem.run_pure,Result.andThen_ok,Option.map_some,Option.map_none,hx,h2,Instr.sliceAt,Instr.slice,run_underlying ht,Instr.sliceBounds,zd5 w k2 i2 h cap _ e2 b2,sizeOf,typeInfo];simp only[show (program:Sem Program) = .program .pure from rfl,Sem.run,hi',Sem.run_pure,Result.andThen_ok,hs];exact hK _ _ K
end
theorem Rd.cut {w:World}{size n cap:Nat}{ad:Option Addr}{xs:List Value} (h:Rd w size (.slice ad n cap) n xs) (l hi:Nat) (h1:l<=hi) (h2:hi<=n) :
  Rd w size (.slice (yq ad cap l size) (hi-l) (cap-l)) (hi-l) ((xs.drop (l*size)).take ((hi-l)*size)):=by
 have hc:n<=cap:=by
  obtain⟨a0,cap0,e,g1,_⟩:=h;simp only[Value.slice.injEq,true_and]at e;omega
 refine h.sub l hi cap h1 h2 (by omega) (Nat.le_refl _) _ fun g o e hlt=>?_;subst e;unfold yq;rw[if_neg (by omega)];simp only[Option.map_some,Addr.add];split
 ·rename_i hz;simp[hz]
 ·rfl
theorem RdB.cut {w:World}{cap:Nat}{ad:Option Addr}{xs:List UInt8} (h:RdB w (.slice ad xs.length cap) xs) (l hi:Nat) (h1:l<=hi) (h2:hi<=xs.length) :
  RdB w (.slice (yq ad cap l 1) (hi-l) (cap-l)) ((xs.drop l).take (hi-l)):=by
 have:=Rd.cut h l hi h1 h2;unfold RdB;rw[<-zd3,<-zk0,List.length_take,List.length_drop,Nat.min_eq_left (by omega)];simpa using this
theorem RdB.drop {w:World}{cap:Nat}{ad:Option Addr}{xs:List UInt8} (h:RdB w (.slice ad xs.length cap) xs) (l:Nat) (h1:l<=xs.length) :
  RdB w (.slice (yq ad cap l 1) (xs.length-l) (cap-l)) (xs.drop l):=by
 have:=RdB.cut h l xs.length h1 (Nat.le_refl _);rwa [List.take_of_length_le (by simp)]at this
theorem RdB.full {w:World}{n cap:Nat}{ad:Option Addr}{xs:List UInt8} (h:RdB w (.slice ad n cap) xs):RdB w (.slice ad n n) xs:=by
 obtain⟨a0,cap0,e,g1,g2,g3,g4⟩:=h;simp only[Value.slice.injEq]at e;obtain⟨rfl,rfl,rfl⟩:=e;exact⟨_,_,rfl,Nat.le_refl _,by omega,g3,g4⟩
theorem RdB.lt {w:World}{g o n cap:Nat}{xs:List UInt8} (h:RdB w (.slice (some ⟨g,o,none⟩) n cap) xs) (hn:0<xs.length):g<w.heap.size:=by
 exact Rd.block_lt h hn g rfl
theorem zof (l:List UInt8) : ∀ s:ByteArray,(l.map fun b=>((b.toNat:Nat):Int)).foldl (fun r n=>r.push (UInt8.ofNat n.toNat)) s=⟨s.data++l.toArray⟩:=by
 induction l with
 | nil=>intro s;simp
 | cons b l ih=>
  intro s;simp only[List.map_cons,List.foldl_cons];rw[ih];congr 1
  simp[ByteArray.push]
theorem zu4 {P:Program}{w:World}{v:Value}{l:List UInt8} (h:RdB w v l):(Conv.bytesToString v).run P w = .ok (.string ⟨l.toArray⟩) w:=by
 obtain⟨a,cap,rfl,h1,h2,h3,h4⟩:=h;by_cases hl:0<l.length
 ·obtain⟨g,o,rfl,hg,hc⟩:=h4 hl;have hld:(loadCells ⟨g,o,none⟩ l.length).run P w = .ok ((l.map fun b=>((b.toNat:Nat):Int)).map (Value.int .u8)).toArray w:=by
   have hf:=run_firstCells_some (P:=P) w 1 l.length ⟨g,o,none⟩ l.length cap (bvs l) (by simp) (fun j u hu=>by
    have hj:j<l.length*1:=by rw[<-h3];exact(List.getElem?_eq_some_iff.1 hu).1
    rw[show (⟨g,o,none⟩:Addr).add j=⟨g,o+j,none⟩ from by unfold Addr.add;split <;> simp_all,hc j hj,hu])
   simp only[Builtin.firstCells,Nat.mul_one]at hf;rw[hf];congr 1
   simp[bvs,bv,List.map_map]
  rw[run_bytesToString w ⟨g,o,none⟩ l.length cap _ hld,zof];simp
 ·obtain rfl:l=[]:=List.eq_nil_of_length_eq_zero (by omega);cases a with
  | none=>simp[Conv.bytesToString,Sem.run_pure];rfl
  | some a=>
   have hld:(loadCells a 0).run P w = .ok (([]:List Int).map (Value.int .u8)).toArray w:=by simp[loadCells,loadCellsFrom,Sem.run_pure]
   exact run_bytesToString (P:=P) w a 0 cap [] hld
end
end Go.Proofs.YtnadlnmclameiaaGreatDoor
