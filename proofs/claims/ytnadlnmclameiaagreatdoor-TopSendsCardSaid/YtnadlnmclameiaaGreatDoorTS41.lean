/- part 41 -/
import Derived.Test.YtnadlnmclameiaaGreatDoorTS39
import Derived.Test.YtnadlnmclameiaaGreatDoorTS40
set_option maxRecDepth 100000
set_option maxHeartbeats 8000000
set_option linter.all false
namespace Go.Proofs.YtnadlnmclameiaaGreatDoor
section
open Go.RowKit
def Idx (T:Nat->Prop) (w:World) (g:Nat) (x:Ix):Prop:=∃ ρ,IxAt w g ρ x.all.length x.all.length x/\∀ k,ρ k≠none->T k
theorem Idx.keep {T:Nat->Prop}{w w':World}{g:Nat}{x:Ix} (h:Idx T w g x) (hk:Keep T w w'):Idx T w' g x:=by
 obtain⟨ρ,h1,h2⟩:=h;exact⟨ρ,h1.keep (hk.mono fun k hr _=>h2 k hr),h2⟩
theorem Idx.ext {T:Nat->Prop}{w w':World}{g:Nat}{x:Ix} (h:Idx T w g x) (hk:Ext w w'):Idx T w' g x:=h.keep (hk.keep _)
theorem Idx.mono {T T':Nat->Prop}{w:World}{g:Nat}{x:Ix} (h:Idx T w g x) (hT : ∀ k,T k->k<w.heap.size->T' k):Idx T' w g x:=by
 obtain⟨ρ,h1,h2⟩:=h;refine⟨ρ,h1,fun k hk=>hT k (h2 k hk) ?_⟩;obtain⟨va,gs,gk,ms,mk,h⟩:=h1;exact h.lt k hk
theorem zv9 (w:World):Calls Tryz.prog 30 #[] w fun e w'=>∃ g,e = .returned (.pointer (some ⟨g,0,none⟩))/\Idx (fun k=>w.heap.size<=k/\k<w'.heap.size) w' g ix0/\Ext w w':=by
 refine(zwa w).mono ?_;rintro e w' ⟨g,rfl,⟨ρ,h1,h2⟩,hx⟩;refine⟨g,rfl,Idx.mono (T:=fun k=>w.heap.size<=k) ⟨ρ,h1,h2⟩ (fun k hk hl=>⟨hk,hl⟩),hx⟩
theorem zv1 (w:World) (T:Nat->Prop) (g:Nat) (x:Ix) (h:Idx T w g x) (hall:x.all.length<=100000) (s:ByteArray) (hs:s.size<=9223372036854775807) (n:Int) (hn : -9223372036854775808<=n/\n<=9223372036854775807) (k:ByteArray) (hk:k.size<=9223372036854775807)
  (S:Nat->Prop) (lv:Value) (l:List Ev) (hl:RdS rE w S lv l) (hle:l.length<=9223372036854775807) (hstr:(x.str s).length<=100000) :
  Calls Tryz.prog 23 #[.pointer (some ⟨g,0,none⟩),.string s,.int .i64 n,.string k,lv] w (zq8 w (tryF x s n k l)):=by
 obtain⟨ρ,h1,h2⟩:=h;exact zv2 w g ρ _ _ x h1 hall s hs n hn k hk S lv l hl hle hstr
def zwq (T:Nat->Prop) (w:World) (g:Nat) (z:Ix × Nat) (e:Ending) (w':World):Prop:=
 e = .returned (.int .i64 ((z.2:Nat):Int))/\Idx (fun k=>T k\/(w.heap.size<=k/\k<w'.heap.size)) w' g z.1/\Keep (fun k=>¬ T k) w w'
theorem zne (w:World) (T:Nat->Prop) (g:Nat) (x:Ix) (h:Idx T w g x) (hall:x.all.length<=100000) (s:ByteArray) (hs:s.size<=9223372036854775807) (k:ByteArray) (hk:k.size<=9223372036854775807) (f:Int) (hf : -9223372036854775808<=f/\f<=9223372036854775807)
  (S:Nat->Prop) (hS : ∀ j,S j->¬ T j) (ev:Value) (es:List Ev) (he:RdS rE w S ev es) (hle:es.length<=9223372036854775807) (hstr:(x.str s).length<=100000) :
  Calls Tryz.prog 26 #[.pointer (some ⟨g,0,none⟩),.agg #[.string s,.string k,.int .i64 f,ev]] w (zwq T w g (addF x (s,k,f,es))):=by
 obtain⟨ρ,h1,h2⟩:=h;have h3 : ∀ j,¬ T j->ρ j=none:=fun j hj=>by
  by_cases h:ρ j=none
  ·exact h
  ·exact absurd (h2 j h) hj
 refine(zwp w g ρ x h1 hall s hs k hk f hf S (fun j hj=>h3 j (hS j hj)) ev es he hle hstr).mono ?_;rintro e w' ⟨rfl,ρ',k1,k2,k3⟩;refine⟨rfl,Idx.mono (T:=fun k=>T k\/w.heap.size<=k) ⟨ρ',k1,fun j hj=>?_⟩ (fun j hj hl=>hj.imp id fun h=>⟨h,hl⟩),k2.mono fun j hj _=>h3 j hj⟩;rcases k3 j hj with h|h
 ·exact .inl (h2 j h)
 ·exact .inr h
theorem zwe (w:World) (T:Nat->Prop) (g:Nat) (x:Ix) (h:Idx T w g x) (hall:x.all.length<=1000000) :
  Calls Tryz.prog 36 #[.pointer (some ⟨g,0,none⟩)] w fun e w'=>e = .returned (.int .i64 (x.all.length:Int))/\w=w':=by
 obtain⟨ρ,h1,h2⟩:=h;exact zwf w g ρ _ _ x h1 hall
def zye:Ev:=(⟨#[111,112,101,110,101,100]⟩,1,[])
end
section
open Go.RowKit
theorem zmt:(Tryz.prog.info? 100).map (·.size)=some 6:=by kernel_rfl
theorem ztf (w:World) (S:Nat->Prop) (v:Value) (xs:List Ent) (h:RdS rEnt w S v xs) (p q:Nat) (hp:p<=9223372036854775807) (hq:q<=9223372036854775807) :
  Calls Tryz.prog 120 #[v,.int .i64 p,.int .i64 q] w fun e w'=>∃ v',e = .returned v'/\RdS rEnt w S v' ((xs.drop p).take q)/\w=w':=by
 obtain⟨a,cap,rfl,hc1,hc2⟩:=h.slice;have H:=hid h;clear h;obtain⟨l,hl1,hl2⟩ : ∃ l,(xs.length<p/\l=xs.length\/¬ xs.length<p/\l=p)/\l<=xs.length:=by
  by_cases hpl:xs.length<p
  ·exact⟨xs.length,.inl ⟨hpl,rfl⟩,by omega⟩
  ·exact⟨p,.inr ⟨hpl,rfl⟩,by omega⟩
 have h1:=H.out.cut l xs.length hl2 (Nat.le_refl _);have hx1:(xs.drop l).take (xs.length-l)=xs.drop l:=List.take_of_length_le (by rw[List.length_drop];omega);rw[hx1]at h1;have H1:=hid h1;obtain⟨m,hm1,hm2⟩ : ∃ m,(xs.length-l<q/\m=xs.length-l\/¬ xs.length-l<q/\m=q)/\m<=xs.length-l:=by
  by_cases hpl:xs.length-l<q
  ·exact⟨xs.length-l,.inl ⟨hpl,rfl⟩,by omega⟩
  ·exact⟨q,.inr ⟨hpl,rfl⟩,by omega⟩
 have hdl:(xs.drop l).length=xs.length-l:=List.length_drop;rw[show xs.length-l=(xs.drop l).length from hdl.symm]at h1;have h2:=h1.cut 0 m (Nat.zero_le _) (by rw[hdl];omega);have hx2:((xs.drop l).drop 0).take (m-0)=(xs.drop p).take q:=by
  rw[List.drop_zero,Nat.sub_zero];rcases hl1 with⟨k1,k2⟩|⟨k1,k2⟩
  ·rw[k2,List.drop_of_length_le (Nat.le_refl _),List.drop_of_length_le (by omega)];simp
  ·rw[k2]at hm1 hdl ⊢;rcases hm1 with⟨j1,j2⟩|⟨j1,j2⟩
   ·rw[j2,List.take_of_length_le (by omega),List.take_of_length_le (by omega)]
   ·rw[j2]
 rw[hx2]at h2;have H2:=hid h2;clear h1 h2 hx1 hx2 hdl;have f1:min (p:Int) (xs.length:Int)=(l:Int):=by omega
 have f2:min (q:Int) ((xs.length-l:Nat):Int)=(m:Int):=by omega
 have f3:min (q:Int) 0=0:=by omega
 rcases hl1 with⟨k1,rfl⟩|⟨k1,rfl⟩;all_goals
  rcases hm1 with⟨j1,rfl⟩|⟨j1,rfl⟩
 all_goals
   go_enter Tryz.func120,Tryz.ntmps120;go_wp2_with ((with_reducible refine yo ?_);(first|(refine yf rfl rfl Tryz.underlying47 zmt rfl rfl _ rfl ?_ ?_;omega)|(refine zng rfl rfl Tryz.underlying47 zmt rfl rfl _ rfl ?_ ?_;omega)))
   go_ret;have H3:=H2.out;simp only[Nat.sub_zero,Nat.sub_self,show rEnt.size=6 from rfl]at H3;(first
    | exact⟨_,rfl,H3,rfl⟩
    | (
      have H4:=H1.out;simp only[Nat.sub_self,show rEnt.size=6 from rfl]at H4;have e1 : ∀ n,(xs.drop p).take n=xs.drop xs.length:=by
       intro n;rw[List.drop_of_length_le (Nat.le_of_lt k1),List.drop_of_length_le (Nat.le_refl _)];simp
      rw[<-e1]at H4;exact⟨_,rfl,H4,rfl⟩))
theorem zwv {w:World}{g:Nat}{a b c d e f v0 v1 v2 v3 v4 v5:Value}{t:TypeId} (h:w.heap[g]? = some (.cells #[a,b,c,d,e,f] t (0,0))) :
  (((((((w.setCell ⟨g,0,none⟩ v0).setCell ⟨g,1,none⟩ v1).setCell ⟨g,2,none⟩ v2).setCell ⟨g,3,none⟩ v3).setCell ⟨g,4,none⟩ v4).setCell ⟨g,5,none⟩ v5).heap[g]? = some (.cells #[v0,v1,v2,v3,v4,v5] t (0,0))):=
 zu (o:=5) (zu (o:=4) (zu (o:=3) (zu (o:=2) (zu (o:=1) (zu (o:=0) h v0) v1) v2) v3) v4) v5
theorem zx0 {S:Nat->Prop}{a w:World}{g:Nat}{v0 v1 v2 v3 v4 v5:Value} (h:Keep S a w) (hg : ¬ S g):Keep S a ((((((w.setCell ⟨g,0,none⟩ v0).setCell ⟨g,1,none⟩ v1).setCell ⟨g,2,none⟩ v2).setCell ⟨g,3,none⟩ v3).setCell ⟨g,4,none⟩ v4).setCell ⟨g,5,none⟩ v5):=
 (((((h.setCell hg _).setCell hg _).setCell hg _).setCell hg _).setCell hg _).setCell hg _
theorem zon (w:World) (S:Nat->Prop) (ap:Int) (st:ByteArray) (an:Int) (t:ByteArray) (n:Int) (fv:Value) (fs:List Fld) (hf:RdS rF w S fv fs) (hl:fs.length<=1000000) :
  Calls Tryz.prog 121 #[.agg #[.int .i64 ap,.string st,.int .i64 an,.string t,.int .i64 n,fv]] w fun e w'=>∃ fv',e = .returned (.agg #[.int .i64 ap,.string st,.int .i64 an,.string t,.int .i64 n,fv'])/\RdSO rF 120 w' (fun k=>w.heap.size<=k) fv' fs/\Ext w w':=by
 obtain⟨fa,fc,rfl,hfc1,hfc2⟩:=hf.slice;have HF:=hid hf;clear hf;go_enter Tryz.func121,Tryz.ntmps121;go_wp2_with fail;obtain⟨wz,hwz⟩ : ∃ wz,wz=w.alloc (.cells #[.int .i64 ap,.string st,.int .i64 an,.string t,.int .i64 n,.slice fa fs.length fc] 100):=⟨_,rfl⟩
 obtain⟨wa,hwa⟩ : ∃ wa,wa=wz.alloc (.cells #[.int .i64 0,.string ⟨#[]⟩,.int .i64 0,.string ⟨#[]⟩,.int .i64 0,.slice none 0 0] 100):=⟨_,rfl⟩
 have hz1:wz.heap.size=w.heap.size+1:=by rw[hwz];simp
 have ha1:wa.heap.size=w.heap.size+2:=by rw[hwa];simp[hz1]
 have hxz:Ext w wz:=by rw[hwz];exact(Ext.refl w).alloc _
 have hxa:Ext wz wa:=by rw[hwa];exact(Ext.refl wz).alloc _
 have hrz:wa.heap[w.heap.size]? = some (.cells #[.int .i64 ap,.string st,.int .i64 an,.string t,.int .i64 n,.slice fa fs.length fc] 100 (0,0)):=(Below.block hxa _ (by omega)).trans (by rw[hwz];exact heap_alloc_new _ _);have hra:wa.heap[w.heap.size+1]? = some (.cells #[.int .i64 0,.string ⟨#[]⟩,.int .i64 0,.string ⟨#[]⟩,.int .i64 0,.slice none 0 0] 100 (0,0)):=by rw[hwa,<-hz1];exact heap_alloc_new _ _
 rw[<-hwz,<-hwa];refine(zhq wa S t n _ fs (HF.out.ext (hxz.trans hxa)) hl).mono ?_;rintro e w1 ⟨v1,rfl,ho1,hx1⟩;have hrz1:=(Below.block hx1 w.heap.size (by omega)).trans hrz;have hra1:=(Below.block hx1 (w.heap.size+1) (by omega)).trans hra;have HO:=hid ho1;have HX:=hid ((hxz.trans hxa).trans hx1);have HS:=hid ha1;obtain⟨a1,c1,rfl,hc11,hc12⟩:=ho1.slice;obtain⟨g,hg⟩ : ∃ g,g=w.heap.size:=⟨_,rfl⟩
 obtain⟨g1,hg1⟩ : ∃ g1,g1=w.heap.size+1:=⟨_,rfl⟩
 have hgg : ¬ g=g1:=by omega
 have hgg' : ¬ g1=g:=by omega
 rw[<-hg1]at hra1 ⊢;rw[<-hg]at hrz1 ⊢;have HRZ:=hid hrz1;have HRA:=hid hra1;have x0:w1.cell? ⟨g,0,none⟩=some (.int .i64 ap):=(cr _ hrz1)
 have x1:w1.cell? ⟨g,1,none⟩=some (.string st):=(cr _ hrz1)
 have x2:w1.cell? ⟨g,2,none⟩=some (.int .i64 an):=(cr _ hrz1)
 have x3:w1.cell? ⟨g,3,none⟩=some (.string t):=(cr _ hrz1)
 have x4:w1.cell? ⟨g,4,none⟩=some (.int .i64 n):=(cr _ hrz1)
 have x5:w1.cell? ⟨g,5,none⟩=some (.slice fa fs.length fc):=(cr _ hrz1)
 have y3:=zc hrz1 3;have y4:=zc hrz1 4;have y5:=zc hrz1 5;have z0:w1.cell? ⟨g1,0,none⟩=some (.int .i64 0):=(cr _ hra1)
 have z1:w1.cell? ⟨g1,1,none⟩=some (.string ⟨#[]⟩):=(cr _ hra1)
 have z2:w1.cell? ⟨g1,2,none⟩=some (.int .i64 0):=(cr _ hra1)
 have z3:w1.cell? ⟨g1,3,none⟩=some (.string ⟨#[]⟩):=(cr _ hra1)
 have z4:w1.cell? ⟨g1,4,none⟩=some (.int .i64 0):=(cr _ hra1)
 have z5:w1.cell? ⟨g1,5,none⟩=some (.slice none 0 0):=(cr _ hra1)
 have u0:=zc hra1 0;have u1:=zc hra1 1;have u2:=zc hra1 2;have u3:=zc hra1 3;have u4:=zc hra1 4;have u5:=zc hra1 5;have HG:=hid (show g=w.heap.size/\g1=w.heap.size+1 from⟨hg,hg1⟩);have HW:=hid hx1.size;clear hwz hwa hz1 ha1 hxz hxa hrz hra hrz1 hra1 hx1 ho1 hg hg1;have HE:=hid (show (((w1.setCell ⟨g,3,none⟩ (.string t)).setCell ⟨g,4,none⟩ (.int .i64 n)).setCell ⟨g,5,none⟩ (.slice a1 fs.length c1)).heap[g1]? = some (.cells #[.int .i64 0,.string ⟨#[]⟩,.int .i64 0,.string ⟨#[]⟩,.int .i64 0,.slice none 0 0] 100 (0,0)) from (((((Keep.refl (fun k=>k≠g) w1).setCell (by simp) _).setCell (by simp) _).setCell (by simp) _).block g1 hgg' (blt HRA.out)).trans HRA.out);go_wp2_with fail;have hr:=zwv (v0:=.int .i64 ap) (v1:=.string st) (v2:=.int .i64 an) (v3:=.string t) (v4:=.int .i64 n) (v5:=.slice a1 fs.length c1) HE.out;have q0:=(cr 0 hr)
 have q1:=(cr 1 hr)
 have q2:=(cr 2 hr)
 have q3:=(cr 3 hr)
 have q4:=(cr 4 hr)
 have q5:=(cr 5 hr)
 have e0:w.heap.size<=g:=by have:=HG.out;omega
 have e1:w.heap.size<=g1:=by have:=HG.out;omega
 have f0 : ¬ wa.heap.size<=g:=by have:=HG.out;have:=HS.out;omega
 have f1 : ¬ wa.heap.size<=g1:=by have:=HG.out;have:=HS.out;omega
 refine bodyPost_ret (v:=.agg #[.int .i64 ap,.string st,.int .i64 an,.string t,.int .i64 n,.slice a1 fs.length c1]) (by simp[results,Tryz.results121,go_sem,q0,q1,q2,q3,q4,q5]) rfl ⟨_,rfl,?_,?_⟩
 ·refine(HO.out.kept (zx0 ((((Keep.refl _ w1).setCell f0 _).setCell f0 _).setCell f0 _) f1)).mono (fun k hk _=>?_);have:wa.heap.size<=k:=hk;have:=HS.out;omega
 ·exact((((((((HX.out.setCell (p:=⟨g,3,none⟩) e0 _).setCell (p:=⟨g,4,none⟩) e0 _).setCell (p:=⟨g,5,none⟩) e0 _).setCell (p:=⟨g1,0,none⟩) e1 _).setCell (p:=⟨g1,1,none⟩) e1 _).setCell (p:=⟨g1,2,none⟩) e1 _).setCell (p:=⟨g1,3,none⟩) e1 _).setCell (p:=⟨g1,4,none⟩) e1 _).setCell (p:=⟨g1,5,none⟩) e1 _
end
section
open Go.RowKit
theorem zg6 {α:Type} (gs:List (List Value × α)) (x:α) (u0 u1 u2 u3 u4 u5:Value):(∀ p∈gs,p.1.length=6)->∀ i,i<gs.length->
  cellsOf (gs.set i ([u0,u1,u2,u3,u4,u5],x))=((((((cellsOf gs).set (i*6+0) u0).set (i*6+1) u1).set (i*6+2) u2).set (i*6+3) u3).set (i*6+4) u4).set (i*6+5) u5:=by
 induction gs with
 | nil=>intro _ i hi;simp at hi
 | cons p gs ih=>
  intro h i hi;have hp:=h p (by simp);obtain⟨c,y⟩:=p;dsimp only at hp;obtain⟨a0,a1,a2,a3,a4,a5,rfl⟩ : ∃ a0 a1 a2 a3 a4 a5,c=[a0,a1,a2,a3,a4,a5]:=by
   match c,hp with
   | [a0,a1,a2,a3,a4,a5],_=>exact⟨_,_,_,_,_,_,rfl⟩
  cases i with
  | zero=>rfl
  | succ i=>
   have:=ih (fun q hq=>h q (by simp[hq])) i (by simpa using hi);have e : ∀ (z:List Value × α) (l:List (List Value × α)),cellsOf (z :: l)=z.1++cellsOf l:=fun z l=>by simp[cellsOf]
   rw[List.set_cons_succ,e,e,this];have s : ∀ (l:List Value) (j:Nat) (u:Value),([a0,a1,a2,a3,a4,a5]++l).set ((i+1)*6+j) u=[a0,a1,a2,a3,a4,a5]++l.set (i*6+j) u:=fun l j u=>by
    rw[show (i+1)*6+j=i*6+j+1+1+1+1+1+1 from by omega];rfl
   dsimp only;rw[s,s,s,s,s,s]
theorem zr5 (l:List Value) (n k:Nat) (u:Value):(l.set k u).take n=(l.take n).set k u:=List.take_set ..
end
section
open Go.RowKit
theorem OwnS.headS {α:Type}{r:Rdr α}{t:TypeId}{w:World}{base:Nat}{S:Nat->Prop}{v:Value}{xs:List α} (h:OwnS r t w base S v xs) (hn:0<xs.length) : ∃ g c cur,v = .slice (some ⟨g,0,none⟩) xs.length c/\base<=g/\g<w.heap.size/\¬ S g/\w.heap[g]? = some (.cells cur t (0,0)):=by
 obtain⟨gs,rfl,⟨h1,h2⟩,h3,h4⟩:=h;rcases h2 with⟨h2,h2'⟩|⟨g',cap',cur,h2,hb,hg,hn,hm,hcs,hx⟩
 ·rw[List.length_map,h2']at hn;exact absurd hn (Nat.lt_irrefl _)
 ·subst h2;exact⟨g',cap',cur,by rw[List.length_map],hb,(blt hg),h3 g' rfl,hg⟩
theorem zgv {w:World}{S:Nat->Prop}{cs:List Value}{e:Ent} (h:rEnt.rd w S cs e) : ∃ fv,cs=[.int .i64 e.1,.string e.2.1,.int .i64 e.2.2.1,.string e.2.2.2.1,.int .i64 e.2.2.2.2.1,fv]/\RdS rF w S fv e.2.2.2.2.2:=by
 obtain⟨_,_,rfl,⟨rfl,_⟩,_,_,rfl,⟨rfl,_⟩,_,_,rfl,⟨rfl,_⟩,h⟩:=h;obtain⟨fv,rfl,_,_,h3⟩:=zf4 h;exact⟨fv,rfl,h3⟩
theorem zn2 {w w':World}{S S':Nat->Prop}{fv fv':Value}{e:Ent} (h:rEnt.rd w S [.int .i64 e.1,.string e.2.1,.int .i64 e.2.2.1,.string e.2.2.2.1,.int .i64 e.2.2.2.2.1,fv] e) (hf:RdSO rF 120 w' S' fv' e.2.2.2.2.2) :
  rEntO.rd w' S' [.int .i64 e.1,.string e.2.1,.int .i64 e.2.2.1,.string e.2.2.2.1,.int .i64 e.2.2.2.2.1,fv'] e:=by
 obtain⟨_,_,h0,⟨rfl,h1⟩,_,_,rfl,⟨rfl,h2⟩,_,_,rfl,⟨rfl,h3⟩,h⟩:=h;obtain⟨fv1,rfl,h4,h5,_⟩:=zf4 h;exact⟨[_],_,rfl,⟨rfl,h1⟩,[_],_,rfl,⟨rfl,h2⟩,[_],_,rfl,⟨rfl,h3⟩,[_],_,rfl,⟨rfl,h4⟩,[_],_,rfl,⟨rfl,h5⟩,hf⟩
theorem zvm (w:World):(Instr.makeSlice 47 (.int .i64 0) (.int .i64 0)).run Tryz.prog w = .ok (.slice (some ⟨w.heap.size,0,none⟩) 0 0) (w.alloc (.cells #[] 100)):=by
 obtain⟨i0,hi,hz0,hz1,hz2⟩:=info_parts zhu;have h:=run_makeSlice (P:=Tryz.prog) w _ _ i0 _ Tryz.underlying47 hi hz0 .i64 .i64 0 0 (by omega) (by omega) (by simp) (by simp) (by omega);simpa[madeCells,Array.range_zero'] using h
end
section
open Go.RowKit
instance decEnt:DecidableEq Ent:=inferInstance
instance decEnts:DecidableEq (List Ent):=inferInstance
theorem RdS.atEnt {w:World}{S:Nat->Prop}{v:Value}{es:List Ent} (h:RdS rEnt w S v es) (i:Nat) (hi:i<es.length) :
  ∃ g o cap fv,v = .slice (some ⟨g,o,none⟩) es.length cap/\g<w.heap.size/\w.cell? ⟨g,o+i*6,none⟩=some (.int .i64 es[i].1)/\w.cell? ⟨g,o+i*6+1,none⟩=some (.string es[i].2.1)/\w.cell? ⟨g,o+i*6+2,none⟩=some (.int .i64 es[i].2.2.1)/\
   w.cell? ⟨g,o+i*6+3,none⟩=some (.string es[i].2.2.2.1)/\w.cell? ⟨g,o+i*6+4,none⟩=some (.int .i64 es[i].2.2.2.2.1)/\w.cell? ⟨g,o+i*6+5,none⟩=some fv/\RdS rF w S fv es[i].2.2.2.2.2:=by
 obtain⟨g,o,cap,cs,rfl,hg,hS,_,hc,hr⟩:=h.at i hi;obtain⟨fv,rfl,h3⟩:=zgv hr;refine⟨g,o,cap,fv,rfl,hg,hc 0 _ rfl,?_,?_,?_,?_,?_,h3⟩
 ·rw[Nat.add_assoc];exact hc 1 _ rfl
 ·rw[Nat.add_assoc];exact hc 2 _ rfl
 ·rw[Nat.add_assoc];exact hc 3 _ rfl
 ·rw[Nat.add_assoc];exact hc 4 _ rfl
 ·rw[Nat.add_assoc];exact hc 5 _ rfl
theorem zxe {f g:Ent} (h:f≠g) (he:f.2.2.2=g.2.2.2):((f.1 == g.1)=false/\(f.1 != g.1)=true)\/(((f.1 == g.1)=true/\(f.1 != g.1)=false)/\(f.2.1.toList == g.2.1.toList)=false)\/(((f.1 == g.1)=true/\(f.1 != g.1)=false)/\(f.2.1.toList == g.2.1.toList)=true/\(f.2.2.1 == g.2.2.1)=false/\(f.2.2.1 != g.2.2.1)=true):=by
 by_cases h1:f.1=g.1
 ·by_cases h2:f.2.1=g.2.1
  ·by_cases h3:f.2.2.1=g.2.2.1
   ·exact absurd (Prod.ext h1 (Prod.ext h2 (Prod.ext h3 he))) h
   ·exact .inr (.inr ⟨⟨by simp[h1],by simp[h1]⟩,zpk h2,by simp[h3],by simp[h3]⟩)
  ·exact .inr (.inl ⟨⟨by simp[h1],by simp[h1]⟩,zei h2⟩)
 ·exact .inl ⟨by simp[h1],by simp[h1]⟩
theorem zcw (w:World) (S T:Nat->Prop) (va vb:Value) (fs gs:List Ent) (ha:RdS rEnt w S va fs) (hb:RdS rEnt w T vb gs) :
  Calls Tryz.prog 15 #[va,vb] w fun e w'=>e = .returned (.bool (decide (fs=gs)))/\Ext w w':=by
 have HA:=hid ha;have HB:=hid hb;obtain⟨a,cap,rfl,h1,h2⟩:=ha.slice;obtain⟨b,capb,rfl,k1,k2⟩:=hb.slice;clear ha hb;by_cases hn:fs.length=gs.length
 ·have HN:=hid hn;have hn':(fs.length:Int)=(gs.length:Int):=by omega
  have hn'':decide ((fs.length:Int)=(gs.length:Int))=true:=by simp[hn]
  clear hn;go_enter Tryz.func15,Tryz.ntmps15;go_wp2_with fail;go_loopw [5,6] (fun u5 u6 wr=>∃ i:Nat,i<=fs.length/\u5 = .int .i64 i/\fs.take i=gs.take i/\Ext w wr) (fun i _ _=>fs.length-(intOf i).toNat);case atStart=>exact⟨0,by omega,rfl,rfl,Ext.refl _⟩
  case round=>
   obtain⟨i,hi,rfl,heq,hx⟩:=hrel;have HE:=hid heq;clear heq;by_cases hl:i<fs.length
   ·have hl':i<gs.length:=by have:=HN.out;omega
    obtain⟨g,o,c1,fv,e,hg,e0,e1,e2,e3,e4,e5,hfs⟩:=(HA.out.ext hx).atEnt i hl;simp only[Value.slice.injEq]at e;obtain⟨rfl,-,rfl⟩:=e;obtain⟨g',o',c2',gv,e,hg',f0,f1,f2,f3,f4,f5,hgs⟩:=(HB.out.ext hx).atEnt i hl';simp only[Value.slice.injEq]at e;obtain⟨rfl,-,rfl⟩:=e;have T1:=hid (List.take_succ_eq_append_getElem hl);have T2:=hid (List.take_succ_eq_append_getElem hl');obtain⟨x,hx'⟩ : ∃ x,x=fs[i]:=⟨_,rfl⟩
    obtain⟨y,hy⟩ : ∃ y,y=gs[i]:=⟨_,rfl⟩
    rw[<-hx']at e0 e1 e2 e3 e4 hfs T1;rw[<-hy]at f0 f1 f2 f3 f4 hgs T2;have HX:=hid hx';have HY:=hid hy;clear hx' hy;have i1:(i:Int)<(fs.length:Int):=by omega
    have i2:(i:Int)<(gs.length:Int):=by omega
    have i3:(0:Int)<=(i:Int):=by omega
    obtain⟨fa,fc,rfl,-⟩:=hfs.slice;obtain⟨ga,gc,rfl,-⟩:=hgs.slice;have HFS:=hid hfs;have HGS:=hid hgs;clear hfs hgs;obtain⟨B,hB⟩ : ∃ B,B=decide (x.2.2.2=y.2.2.2):=⟨_,rfl⟩
    have HBB:=hid hB;clear hB;go_wp2_with fail;go_region_held3 (fun w'=>w'.cell? ⟨g,o+i*6+3,none⟩=some (.string x.2.2.2.1)/\w'.cell? ⟨g,o+i*6+4,none⟩=some (.int .i64 x.2.2.2.2.1)/\w'.cell? ⟨g,o+i*6+5,none⟩=some (.slice fa x.2.2.2.2.2.length fc)/\w'.cell? ⟨g',o'+i*6+3,none⟩=some (.string y.2.2.2.1)/\w'.cell? ⟨g',o'+i*6+4,none⟩=some (.int .i64 y.2.2.2.2.1)/\w'.cell? ⟨g',o'+i*6+5,none⟩=some (.slice ga y.2.2.2.2.2.length gc)) (first|go_keep|(go_split_ands;exact⟨Ext.cellS hx' (by assumption),Ext.cellS hx' (by assumption),Ext.cellS hx' (by assumption),Ext.cellS hx' (by assumption),Ext.cellS hx' (by assumption),Ext.cellS hx' (by assumption)⟩)) ((go_at_call 34;go_must (refine(zjf _ S T x.2.2.2.1 y.2.2.2.1 x.2.2.2.2.1 y.2.2.2.2.1 _ _ x.2.2.2.2.2 y.2.2.2.2.2 (RdS.ext HFS.out (by(exact Ext.xt))) (RdS.ext HGS.out (by(exact Ext.xt)))).mono ?_;rw[<-HBB.out];rintro e w' ⟨rfl,hb'⟩;have hx':=Ext.of hb';clear hb')));all_goals
     have hxx:Ext wr w':=by(exact Ext.xt)
     have HX2:=hid hxx;replace e0:=hxx.cellS e0;replace e1:=hxx.cellS e1;replace e2:=hxx.cellS e2;replace f0:=hxx.cellS f0;replace f1:=hxx.cellS f1;replace f2:=hxx.cellS f2;clear e3 e4 e5 f3 f4 f5 hxx;by_cases q:x=y
     ·have hB:B=true:=HBB.out.trans (decide_eq_true (by rw[q]));subst q hB;clear HBB;go_wp2_with fail;go_quiet (fail);go_wp2_with fail;go_roundw;case rel=>exact⟨i+1,by omega,by go_num,by rw[T1.out,T2.out,HE.out],(hx.trans HX2.out).drewN _⟩
      case measure=>simp[intOf];omega
     ·have HNE:=hid (show ¬ fs=gs from fun e=>by
       subst e;exact q (HX.out.trans HY.out.symm))
      have hq:B=false\/B=true/\(((x.1 == y.1)=false/\(x.1 != y.1)=true)\/(((x.1 == y.1)=true/\(x.1 != y.1)=false)/\(x.2.1.toList == y.2.1.toList)=false)\/(((x.1 == y.1)=true/\(x.1 != y.1)=false)/\(x.2.1.toList == y.2.1.toList)=true/\(x.2.2.1 == y.2.2.1)=false/\(x.2.2.1 != y.2.2.1)=true)):=by
       by_cases he:x.2.2.2=y.2.2.2
       ·exact .inr ⟨HBB.out.trans (decide_eq_true he),zxe q he⟩
       ·exact .inl (HBB.out.trans (decide_eq_false he))
      clear q HBB;rcases hq with rfl|⟨rfl,⟨z1,z1'⟩|⟨⟨z1,z1'⟩,z2⟩|⟨⟨z1,z1'⟩,z2,z3,z3'⟩⟩;all_goals
       go_wp2_with fail;go_quiet (fail);go_wp2_with fail;go_ret;exact⟨congrArg (fun b=>Ending.returned (.bool b)) (decide_eq_false HNE.out).symm,(hx.trans HX2.out).drewN _⟩
   ·obtain rfl:i=fs.length:=by omega
    go_wp2_with fail;go_ret;refine⟨?_,hx⟩;have:fs=gs:=by
     have:=HE.out;rwa [List.take_length,List.take_of_length_le (by have:=HN.out;omega)]at this
    simp[this]
 ·have hn' : ¬ (fs.length:Int)=(gs.length:Int):=by omega
  have HNE:=hid (show ¬ fs=gs from fun e=>hn (by rw[e]));go_enter Tryz.func15,Tryz.ntmps15;go_wp2_with fail;go_ret;exact⟨congrArg (fun b=>Ending.returned (.bool b)) (decide_eq_false HNE.out).symm,Ext.refl _⟩
end
inductive Reach:Ix->Prop where
 | zero:Reach ix0
 | add {x:Ix} (b:Bat):Reach x->(addF x b).2=0->Reach (addF x b).1
theorem zm8 {x:Ix}{b:Bat} (h:(addF x b).2=0):kc b.1 b.2.1=true/\x.key b.2.1=none/\qs b.2.2.2=true/\b.2.2.1=((x.str b.1).length:Int)/\(addF x b).1=vj b.1 (ji x b.2.1 b.1 b.2.2.1 b.2.2.2.length) b.2.2.1 b.2.2.2:=by
 unfold addF at h ⊢;by_cases h1:kc b.1 b.2.1=false
 ·rw[if_pos h1]at h;simp at h
 ·rw[if_neg h1]at h ⊢;by_cases h2:(x.key b.2.1).isSome=true
  ·rw[if_pos h2]at h;simp at h
  ·rw[if_neg h2]at h ⊢;by_cases h3:qs b.2.2.2=false
   ·rw[if_pos h3]at h;simp at h
   ·rw[if_neg h3]at h ⊢;by_cases h4:b.2.2.1≠((x.str b.1).length:Int)
    ·rw[if_pos h4]at h;simp at h
    ·rw[if_neg h4];refine⟨by simpa using h1,by simpa using h2,by simpa using h3,Decidable.not_not.1 h4,rfl⟩
theorem zto {x:Ix}{b:Bat} (h:(addF x b).2≠0):(addF x b).1=x:=by
 unfold addF at h ⊢;split
 ·rfl
 ·split
  ·rfl
  ·split
   ·rfl
   ·split
    ·rfl
    ·rename_i h1 h2 h3 h4
     rw[if_neg h1,if_neg h2,if_neg h3,if_neg h4]at h;exact absurd rfl h
theorem zjq {x:Ix}{s:ByteArray}{n:Int}{k:ByteArray}{l:List Ev} (h:(tryF x s n k l).2.2=0) (hk:x.key k=none) :
  kc s k=true/\qs l=true/\tryF x s n k l=((((x.str s).length:Int),(x.all.length:Int),(l.length:Int),false),(s,k,((x.str s).length:Int),l),0):=by
 unfold tryF at h ⊢;rw[hk]at h ⊢;dsimp only at h ⊢;by_cases h1:kc s k=false
 ·rw[if_pos h1]at h;simp at h
 ·rw[if_neg h1]at h ⊢;by_cases h2:qs l=false
  ·rw[if_pos h2]at h;simp at h
  ·rw[if_neg h2]at h ⊢;by_cases h3:n < -1
   ·rw[if_pos h3]at h;simp at h
   ·rw[if_neg h3]at h ⊢;by_cases h4:0<=n/\n≠((x.str s).length:Int)
    ·rw[if_pos h4]at h;simp at h
    ·rw[if_neg h4];exact⟨by simpa using h1,by simpa using h2,rfl⟩
theorem zrz {x:Ix}{s:ByteArray}{n:Int}{k:ByteArray}{l:List Ev}{z:ByteArray × Apd} (hk:x.key k=some z):(tryF x s n k l).2.1=bat0:=by
 unfold tryF;rw[hk];split
 ·rfl
 ·dsimp only;split <;> rfl
theorem zuw {x:Ix}{s:ByteArray}{n:Int}{k:ByteArray}{l:List Ev} (h:(tryF x s n k l).2.2=0) (hl:0<(tryF x s n k l).2.1.2.2.2.length):x.key k=none/\(addF x (tryF x s n k l).2.1).2=0:=by
 cases hk:x.key k with
 | some z=>rw[zrz hk]at hl;simp[bat0]at hl
 | none=>
  obtain⟨h1,h2,h3⟩:=zjq h hk;refine⟨rfl,?_⟩;rw[h3];unfold addF;dsimp only;rw[if_neg (by rw[h1];simp),if_neg (by rw[hk];simp),if_neg (by rw[h2];simp),if_neg (by simp)]
theorem ztn (x:Ix) (b:Bat):x.all.length<=(addF x b).1.all.length/\(addF x b).1.all.length<=x.all.length+16:=by
 by_cases h:(addF x b).2=0
 ·obtain⟨h1,h2,h3,h4,h5⟩:=zm8 h;have:=zab h3;rw[h5,ze4,zcr];omega
 ·rw[zto h];omega
theorem Reach.str {x:Ix} (h:Reach x) : ∀ s,(x.str s).length<=x.all.length:=by
 induction h with
 | zero=>intro s;simp[ix0]
 | add b h0 h1 ih=>
  rename_i x
  intro s;obtain⟨k1,k2,k3,k4,k5⟩:=zm8 h1;rw[k5,ze4,zcr,zq3,zir];have:=ih s;split <;> omega
end Go.Proofs.YtnadlnmclameiaaGreatDoor
