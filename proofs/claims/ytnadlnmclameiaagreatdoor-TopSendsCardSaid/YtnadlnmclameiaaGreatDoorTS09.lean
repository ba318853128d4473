/- part 9 -/
import Derived.Test.YtnadlnmclameiaaGreatDoorTS08
import Derived.Deep.DrawnRows
set_option maxRecDepth 100000
set_option maxHeartbeats 8000000
set_option linter.all false
namespace Go.Proofs.YtnadlnmclameiaaGreatDoor
section
open Go.RowKit
theorem zff:(Tryz.prog.info? 233).map (·.size)=some 16:=by kernel_rfl
theorem zpi (w:World) :
  Calls Tryz.prog 135 #[] w fun e w'=>e = .returned (.agg (yx 16))/\Below w.heap.size w w':=by
 go_enter Tryz.func135,Tryz.ntmps135;go_wp2;rw[<-zbi];generalize hB:w.heap.size=B;go_loopw [4] (fun i wr=>∃ k:Nat,k<=16/\i = .int .i64 k/\wr.heap[B+1]? = some (.cells (yx k) 233 (0,0))/\wr.heap[B]? = some (.cells (yx 0) 233 (0,0))/\Below B w wr) (fun i _=>16-(intOf i).toNat);case atStart=>
  subst hB;exact⟨0,by omega,rfl,heap_alloc2_new _ _ _,heap_alloc2_old _ _ _,((Below.refl _ _).alloc (Nat.le_refl _) _).alloc (by simp) _⟩
 case round=>
  obtain⟨k,hk,rfl,h1,h0,hbel⟩:=hrel;by_cases hlt:k<16
  ·have hcell:wr.cell? ⟨B+1,k,none⟩=some (.int .u32 0):=by rw[cell_of_row _ _ _ _ _ _ h1,bx k k hlt,if_neg (by omega)]
   have hfr:wr.frozen? ⟨B+1,k,none⟩=false:=frozen_of_row _ _ _ _ _ h1;have H1:=hid h1;have H0:=hid h0;clear h1 h0;go_wp2;obtain⟨wo,rfl⟩ : ∃ wo:World,wo=wr:=⟨_,rfl⟩
   go_loop [3,9] (fun r j=>∃ m:Nat,m<=4/\j = .int .i64 m/\r = .int .u32 ((stN m k:Nat):Int)) (fun _ j=>4-(intOf j).toNat);case atStart=>exact⟨0,by omega,rfl,rfl⟩
   case round=>
    obtain⟨m,hm,rfl,rfl⟩:=hrel;by_cases hml:m<4
    ·have hx:=za8 m k (by omega);have hst:=hid (show st (stN m k)=stN (m+1) k from rfl);generalize hxx:stN m k=x at*;have h1:=zry x hx;have h2:=hid (zuy x hx);have h3:x % 2<=1:=by omega
     generalize hy:x % 2=y at*;clear hxx hy;go_wp2;go_round;case rel=>exact⟨m+1,by omega,by go_num,by rw[h2.out,hst.out]⟩
     case measure=>simp[intOf];omega
    ·obtain rfl:m=4:=by omega
     go_wp2;go_roundw;case rel=>
      refine⟨k+1,by omega,by go_num,?_,?_,hbel.setCell (by simp) _⟩
      ·rw[heap_setCell_same _ _ _ _ _ _ H1.out,zju k hlt]
      ·rw[_root_.Go.heap_setCell_other _ _ _ _ (by simp)];exact H0.out
     case measure=>simp[intOf];omega
  ·obtain rfl:k=16:=by omega
   have H0:=hid h0;clear h0;go_wp2_with (first|((with_reducible refine zvz ?_);go_must (refine wpList_load_row rfl 233 _ rfl (B+1) rfl 233 (yx 16) _ _ h1 Tryz.underlying233 rfl (by rw[qa];exact zff) ?_))|((with_reducible refine zk4 ?_);go_must (refine wpList_store_row rfl 233 _ _ rfl B (yx 16) rfl rfl 233 (yx 0) H0.out (by rw[qa];exact zff) (by rw[qa,qa]) (by decide +kernel) ?_)))
   refine bodyPost_ret (v:=.agg (yx 16)) (results_cell_row rfl _ _ B 233 (yx 16) (0,0) _ rfl (setRow_heap _ _ _ _ _ _ H0.out) Tryz.underlying233 rfl (by rw[qa];exact zff)) rfl ⟨rfl,?_⟩;subst hB;exact hbel.trans ⟨rfl,rfl,rfl,by simp,fun j hj=>setRow_other _ _ _ _ (by omega)⟩
theorem zfn (w:World) (v:Value) (l:List UInt8) (hv:RdB w v l) :
  Calls Tryz.prog 82 #[v] w fun e w'=>e = .returned (.int .u32 ((sumF l:Nat):Int))/\Below w.heap.size w w':=by
 obtain⟨a,cap,rfl,h1,h2,h3,h4⟩:=id hv;have h2:cap<=9223372036854775807:=by unfold maxLen at h2;omega
 clear h3 h4;go_enter Tryz.func82,Tryz.ntmps82;go_wp2_with (first|(go_at_call 135;refine(zpi _).mono ?_;rintro e w1 ⟨rfl,hb1⟩)|((with_reducible refine zk4 ?_);go_must (refine wpList_store_row rfl 233 _ _ rfl w1.heap.size (yx 16) rfl rfl 233 (yx 0) (by rw[zbi];exact heap_alloc_new _ _) (by rw[qa];exact zff) (by rw[qa,qa]) (by decide +kernel) ?_)))
 rw[<-zbi];obtain⟨W,hW⟩ : ∃ W,W=(w1.alloc (.cells (yx 0) 233)).setRow w1.heap.size (yx 16):=⟨_,rfl⟩
 rw[<-hW];have hT : ∀ j,j<16->W.cell? ⟨w1.heap.size,j,none⟩=some (.int .u32 ((stN 4 j:Nat):Int)):=by
  intro j hj;rw[hW,cell_of_row _ _ _ _ _ _ (setRow_heap _ _ _ _ _ _ (heap_alloc_new w1 _)),bx 16 j hj,if_pos hj]
 have hbel:Below w.heap.size w W:=by
  subst hW;exact hb1.trans ⟨rfl,rfl,rfl,by simp[World.setRow],fun j hj=>by
   have hs:=hb1.size;rw[setRow_other _ _ _ _ (by omega)];exact Below.heap_alloc _ _ _ (by omega)⟩
 have hvW:RdB W (.slice a l.length cap) l:=hv.below hbel;obtain⟨_,_,e4,_,_,_,h4⟩:=id hvW;simp only[Value.slice.injEq,true_and]at e4;obtain⟨rfl,rfl⟩:=e4;have H4:=hid h4;have HT:=hid hT;clear hT h4 hvW hv hW;generalize hBB:w1.heap.size=B at*;clear hBB hb1;go_loop [4,10] (fun r i=>∃ k:Nat,k<=l.length/\i = .int .i64 k/\r = .int .u32 ((zbm 4294967295 (l.take k):Nat):Int)) (fun _ i=>l.length-(intOf i).toNat);case atStart=>exact⟨0,by omega,rfl,rfl⟩
 case round=>
  obtain⟨k,hk,rfl,rfl⟩:=hrel;have hx:=zjv (l.take k) 4294967295 (by omega);by_cases hl:k<l.length
  ·obtain⟨g,o,rfl,hg,hc⟩:=H4.out (by omega);have hck:W.cell? ⟨g,o+k,none⟩=some (.int .u8 (l[k].toNat:Int)):=by rw[hc k (by omega),zb1 l k hl]
   have Hs:=hid (show zbm 4294967295 (l.take (k+1))=zc6 (zbm 4294967295 (l.take k)) l[k] by rw[<-znq,List.take_succ_eq_append_getElem hl]);clear hc;generalize l[k]=c at hck Hs;generalize zbm 4294967295 (l.take k)=x at*;have hcb:c.toNat<256:=c.toNat_lt;obtain⟨q,s,t,q1,s1,t1,q2,e1,b1,e2,b2,e3,b3,e4,b4,e5,b5,e6,b6,e7,b7,e8⟩:=zpj x c hx;have c1:=HT.out s b2;have c2:=HT.out s1 b5;rw[<-e3]at c1;rw[<-e6]at c2;have E8:=hid e8;clear e3 e6 e8;go_wp2;go_round;case rel=>exact⟨k+1,by omega,by go_num,by rw[Hs.out,<-E8.out]⟩
   case measure=>simp[intOf];omega
  ·obtain rfl:k=l.length:=by omega
   rw[List.take_length]at hx ⊢;go_wp2;go_ret;exact⟨congrArg (fun z=>Ending.returned (Value.int .u32 z)) (zsv _ hx),hbel⟩
end
section
open Go.RowKit
attribute [local go_sem ↓] Go.wp_at_zero Go.wp_at_succ
theorem zck (w:World) (v:Value) (l:List UInt8) (kind:UInt8) (dv:Value) (data:List UInt8) (hv:RdB w v l) (hd:RdB w dv data) (hlong:data.length<=2000) (hl:l.length+2100<=140737488355328) :
  Calls Tryz.prog 49 #[v,.agg #[.int .u8 ((kind.toNat:Nat):Int),dv]] w fun e w'=>∃ v',e = .returned (.tuple #[v',.int .i64 0])/\OwnB w' w.heap.size v' (l++putF kind data)/\Below w.heap.size w w':=by
 obtain⟨a,cap,rfl,h1,h2,h3,h4⟩:=id hd;clear h4;go_enter Tryz.func49,Tryz.ntmps49;go_wp2;have hwr:IntKind.u64.wrap ((data.length:Nat):Int)=(data.length:Int):=by rw[IntKind.wrap_u64];omega
 have HK:=hid ((zu7 (w.alloc (.cells #[.int .u8 ((kind.toNat:Nat):Int),.slice a data.length cap] 80)) (w.heap.size+1) #[.int .u8 ((kind.toNat:Nat):Int)] 5 [kind] 1 (by simp) rfl (by omega) rfl).drew);have HD:=hid (((hd.alloc (.cells #[.int .u8 ((kind.toNat:Nat):Int),.slice a data.length cap] 80)).alloc (.cells #[.int .u8 ((kind.toNat:Nat):Int)] 5)).drew);have hpl:=zq data.length;go_region_held3 (fun w'=>w'.cell? ⟨w.heap.size,0,none⟩=some (.int .u8 ((kind.toNat:Nat):Int))/\w'.cell? ⟨w.heap.size,1,none⟩=some (.slice a data.length cap))
  (first|go_keep|exact⟨(hb1.cell (p:=⟨w.heap.size,0,none⟩) (by simp;omega)).trans (by simp[go_sem]),(hb1.cell (p:=⟨w.heap.size,1,none⟩) (by simp;omega)).trans (by simp[go_sem])⟩|(go_split_ands;exact⟨(k5.cell (p:=⟨w.heap.size,0,none⟩) (by simp)).trans (by assumption),(k5.cell (p:=⟨w.heap.size,1,none⟩) (by simp)).trans (by assumption)⟩)|trivial)
  (first|(go_at_call 45;go_must (refine(yi _ _ [kind] data.length HK.out (by omega) (by simp)).mono ?_;rintro e w1 ⟨v1,rfl,ho1,hb1⟩;have HD1:=hid (HD.out.below hb1);have HO1:=hid (OwnB.low (base':=w.heap.size+2) ho1 (by simp));have hs1:=hb1.size;simp at hs1;clear ho1))|((with_reducible refine bd ?_);go_must (refine zcn rfl _ _ _ rfl (w.heap.size+2) v1 ([kind]++putU data.length) rfl (qg HO1.out) _ data rfl (bz HD1.out) ?_ ?_ ?_;(first|omega|(simp only[List.length_cons,List.length_nil,List.length_append,le32];omega));(first|omega|(simp only[World.alloc,Array.size_push];omega));intro v' w' k1 k2 k3 k4 k5 k6)))
 have hbel:Below w.heap.size w w':=(((((Below.refl _ _).alloc (Nat.le_refl _) _).alloc (by simp) _).drew.trans (hb1.mono (by simp;omega)))).trans (k5.mono (by omega));have HR:=hid (show OwnB w' (w.heap.size+2) v' (x7 kind data) by have:=k3 HO1.out;rwa [show [kind]++putU data.length++data=x7 kind data by simp[x7]]at this);have HV:=hid (hv.below hbel);have hs2:=hbel.size;have hrl:=zb8 kind data;have hsf:=zhm (x7 kind data);clear k1 k2 k3 k4 k5 k6 hb1 HK HD HD1 HO1 hwr hs1;go_wp2_with (first|(go_at_call 82;refine(zfn _ _ (x7 kind data) (zk HR.out)).mono ?_;rintro e w2 ⟨rfl,hb2⟩;have HR2:=hid (zae HR.out hb2);have HV2:=hid (HV.out.below hb2);have hs3:=hb2.size)|(go_at_call 81;refine(ze6 _ v l (sumF (x7 kind data)) HV2.out (by omega) (by omega)).mono ?_;rintro e w3 ⟨v3,rfl,ho3,hb3⟩;have HR3:=hid (zae HR2.out hb3);have hs4:=hb3.size;have HO3:=hid (OwnB.low (base':=w.heap.size) ho3 (by omega));clear ho3)|(at_builtin;go_must (refine kw rfl _ _ _ rfl w.heap.size v3 (l++le32 (sumF (x7 kind data))) rfl (qg HO3.out) _ (x7 kind data) rfl (bz (zk HR3.out)) ?_ ?_ ?_;(first|omega|(simp only[List.length_cons,List.length_nil,List.length_append,le32];omega));(first|omega|(simp only[World.alloc,Array.size_push];omega));intro v' w' k1 k2 k3 k4 k5 k6)))
 go_ret2;refine⟨v',rfl,?_,hbel.trans ((hb2.mono hs2).trans ((hb3.mono (by omega)).trans k5))⟩;rw[putF,<-List.append_assoc];exact k3 HO3.out
theorem zmv (W:World) (a:Option Addr) (n c:Nat):(binOp .eql 33 (.slice a n c) (.slice none 0 0)).run Tryz.prog W = .ok (.bool a.isNone) W:=by
 simp only[binOp];simp[Op.equal,Op.maxDepth,Lib.run_equalIn_slice_nil W 9999 33 5 a n c 0 0 Tryz.underlying33]
theorem zbg (w:World) (v:Value) (l:List UInt8) (hv:RdB w v l) (hl:l.length<=140737488355328) :
  Calls Tryz.prog 83 #[v] w (NewB l w):=by
 obtain⟨a,cap,rfl,h1,h2,h3,h4⟩:=id hv;clear h4;have he:=fun W:World=>zmv W a l.length cap;cases a with
 | none=>
  have hl0:l=[]:=by
   obtain⟨a,cap,e,_,_,_,h4⟩:=hv;simp only[Value.slice.injEq]at e;by_cases h0:0<l.length
   ·obtain⟨g,o,e2,_⟩:=h4 h0;rw[<-e.1]at e2;cases e2
   ·exact List.eq_nil_of_length_eq_zero (by omega)
  subst hl0;clear he;have he:=fun W:World=>zmv W none 0 cap;go_enter Tryz.func83,Tryz.ntmps83;go_wp2;go_ret;exact⟨_,rfl,World.ownsRow_nil _ _ _ _,Below.refl _ _⟩
 | some p=>
  have HV:=hid (hv.alloc (.cells #[] 5));have HA:Hid (OwnB (w.alloc (.cells #[] 5)) w.heap.size (.slice (some ⟨w.heap.size,0,none⟩) 0 0) []):=World.ownsRow_made w #[] 0 (Nat.le_refl _) (by simp[maxLen]) rfl;go_enter Tryz.func83,Tryz.ntmps83;go_wp2_with (at_builtin;go_must (refine kw rfl _ _ _ rfl w.heap.size (.slice (some ⟨w.heap.size,0,none⟩) 0 0) [] rfl (qg HA.out) _ l rfl (bz HV.out) ?_ ?_ ?_;(first|omega|(simp only[List.length_cons,List.length_nil,List.length_append,le32];omega));(first|omega|(simp only[World.alloc,Array.size_push];omega));intro v' w' k1 k2 k3 k4 k5 k6))
  go_ret;exact⟨v',rfl,k3 HA.out,((Below.refl _ _).alloc (Nat.le_refl _) _).trans k5⟩
end
section
open Go.RowKit
attribute [local go_sem ↓] Go.wp_at_zero Go.wp_at_succ
def j5 (f:Fr) (w:World) (e:Ending) (w':World):Prop:=
 ∃ dv,e = .returned (.tuple #[.agg #[.int .u8 ((f.kind.toNat:Nat):Int),dv],.int .i64 ((f.n:Nat):Int),.int .i64 ((f.e:Nat):Int)])/\OwnB w' w.heap.size dv f.data/\Below w.heap.size w w'
theorem zmg (w:World) (v:Value) (l:List UInt8) (hv:RdB w v l) (hl:l.length<=140737488355328) (h5:l.length<5) :
  Calls Tryz.prog 116 #[v] w (j5 (zj l) w):=by
 obtain⟨a,cap,rfl,h1,h2,h3,h4⟩:=id hv;have h2:cap<=9223372036854775807:=by unfold maxLen at h2;omega
 have HV:=hid (hv.alloc (.cells #[.int .u8 0,.slice none 0 0] 80));clear h4;go_enter Tryz.func116,Tryz.ntmps116;go_wp2;refine bodyPost_ret (v:=.tuple #[.agg #[.int .u8 0,.slice none 0 0],.int .i64 0,.int .i64 10]) (by simp[results,Tryz.results116,go_sem]) rfl ?_;rw[zj,if_pos h5];refine⟨_,rfl,World.ownsRow_nil _ _ _ _,?_⟩;exact(Below.refl _ _).alloc (Nat.le_refl _) _
theorem zo2 (w:World) (v:Value) (l:List UInt8) (hv:RdB w v l) (hl:l.length<=140737488355328) (h5 : ¬l.length<5) (n k:Nat) (hU:zi (l.drop 5)=(n,k,0)) (hlong:2000<n) :
  Calls Tryz.prog 116 #[v] w (j5 (zj l) w):=by
 obtain⟨a,cap,rfl,h1,h2,h3,h4⟩:=id hv;have h2:cap<=9223372036854775807:=by unfold maxLen at h2;omega
 have HV:=hid (hv.alloc (.cells #[.int .u8 0,.slice none 0 0] 80));clear h4;have hd:=RdB.drop HV.out 5 (by omega);have hfc:=yh (l.drop 5);rw[hU]at hfc;obtain⟨f1,f2,f3,f4⟩:=hfc;dsimp only at f1 f2 f3 f4;have HU:=hid hU;have hlen:(l.drop 5).length=l.length-5:=by simp
 have HD:=hid hd;clear hd hU;have HF:Hid (zj l=if 0≠0 then ⟨0,[],0,0⟩ else if 2000<n then ⟨0,[],0,12⟩ else if l.length-5-k<n then ⟨0,[],0,10⟩
   else if (u32F l).1≠sumF ((l.drop 4).take (1+k+n)) then ⟨0,[],0,11⟩ else ⟨l.getD 4 0,(l.drop (5+k)).take n,5+k+n,0⟩):=by
  show _=_;rw[zj,if_neg h5,HU.out]
 go_enter Tryz.func116,Tryz.ntmps116;go_wp2_with (first|((with_reducible refine yo ?_);go_must (refine yf rfl rfl Tryz.underlying33 qe rfl rfl 5 rfl ?_ ?_;omega))|(go_at_call 103;go_must (refine(yv _ _ (l.drop 5) HD.out).mono ?_;rintro e w1 ⟨rfl,rfl⟩;rw[HU.out];dsimp only) ))
 refine bodyPost_ret (v:=.tuple #[.agg #[.int .u8 0,.slice none 0 0],.int .i64 0,.int .i64 12]) (by simp[results,Tryz.results116,go_sem]) rfl ?_;rw[HF.out,if_neg (by simp),if_pos hlong];exact⟨_,rfl,World.ownsRow_nil _ _ _ _,(Below.refl _ _).alloc (Nat.le_refl _) _⟩
theorem zrg (w:World) (v:Value) (l:List UInt8) (hv:RdB w v l) (hl:l.length<=140737488355328) (h5 : ¬l.length<5) (n k:Nat) (hU:zi (l.drop 5)=(n,k,0)) (hlong : ¬2000<n) (hsh:l.length-5-k<n) :
  Calls Tryz.prog 116 #[v] w (j5 (zj l) w):=by
 obtain⟨a,cap,rfl,h1,h2,h3,h4⟩:=id hv;have h2:cap<=9223372036854775807:=by unfold maxLen at h2;omega
 have HV:=hid (hv.alloc (.cells #[.int .u8 0,.slice none 0 0] 80));clear h4;have hd:=RdB.drop HV.out 5 (by omega);have hfc:=yh (l.drop 5);rw[hU]at hfc;obtain⟨f1,f2,f3,f4⟩:=hfc;dsimp only at f1 f2 f3 f4;have HU:=hid hU;have hlen:(l.drop 5).length=l.length-5:=by simp
 have HD:=hid hd;clear hd hU;have HF:Hid (zj l=if 0≠0 then ⟨0,[],0,0⟩ else if 2000<n then ⟨0,[],0,12⟩ else if l.length-5-k<n then ⟨0,[],0,10⟩
   else if (u32F l).1≠sumF ((l.drop 4).take (1+k+n)) then ⟨0,[],0,11⟩ else ⟨l.getD 4 0,(l.drop (5+k)).take n,5+k+n,0⟩):=by
  show _=_;rw[zj,if_neg h5,HU.out]
 go_enter Tryz.func116,Tryz.ntmps116;go_wp2_with (first|((with_reducible refine yo ?_);go_must (refine yf rfl rfl Tryz.underlying33 qe rfl rfl 5 rfl ?_ ?_;omega))|(go_at_call 103;go_must (refine(yv _ _ (l.drop 5) HD.out).mono ?_;rintro e w1 ⟨rfl,rfl⟩;rw[HU.out];dsimp only) ))
 refine bodyPost_ret (v:=.tuple #[.agg #[.int .u8 0,.slice none 0 0],.int .i64 0,.int .i64 10]) (by simp[results,Tryz.results116,go_sem]) rfl ?_;rw[HF.out,if_neg (by simp),if_neg hlong,if_pos hsh];exact⟨_,rfl,World.ownsRow_nil _ _ _ _,(Below.refl _ _).alloc (Nat.le_refl _) _⟩
theorem zrh (w:World) (v:Value) (l:List UInt8) (hv:RdB w v l) (hl:l.length<=140737488355328) (h5 : ¬l.length<5) (n k:Nat) (hU:zi (l.drop 5)=(n,k,0)) (hlong : ¬2000<n) (hsh : ¬l.length-5-k<n) (hsum:(u32F l).1≠sumF ((l.drop 4).take (1+k+n))) :
  Calls Tryz.prog 116 #[v] w (j5 (zj l) w):=by
 obtain⟨a,cap,rfl,h1,h2,h3,h4⟩:=id hv;have h2:cap<=9223372036854775807:=by unfold maxLen at h2;omega
 have HV:=hid (hv.alloc (.cells #[.int .u8 0,.slice none 0 0] 80));clear h4;have hd:=RdB.drop HV.out 5 (by omega);have hfc:=yh (l.drop 5);rw[hU]at hfc;obtain⟨f1,f2,f3,f4⟩:=hfc;dsimp only at f1 f2 f3 f4;have HU:=hid hU;have hlen:(l.drop 5).length=l.length-5:=by simp
 have HD:=hid hd;clear hd hU;have HF:Hid (zj l=if 0≠0 then ⟨0,[],0,0⟩ else if 2000<n then ⟨0,[],0,12⟩ else if l.length-5-k<n then ⟨0,[],0,10⟩
   else if (u32F l).1≠sumF ((l.drop 4).take (1+k+n)) then ⟨0,[],0,11⟩ else ⟨l.getD 4 0,(l.drop (5+k)).take n,5+k+n,0⟩):=by
  show _=_;rw[zj,if_neg h5,HU.out]
 have HS:=hid (RdB.cut HV.out 4 (5+k+n) (by omega) (by omega));have HC:=hid (RdB.cut HV.out (5+k) (5+k+n) (by omega) (by omega));have HB:Hid ((w.alloc (.cells #[.int .u8 0,.slice none 0 0] 80)).heap[w.heap.size]? = some (.cells #[.int .u8 0,.slice none 0 0] 80 (0,0))):=heap_alloc_new w _;have HW:Hid (Below w.heap.size w (w.alloc (.cells #[.int .u8 0,.slice none 0 0] 80))):=(Below.refl _ _).alloc (Nat.le_refl _) _;go_enter Tryz.func116,Tryz.ntmps116;go_wp2_with (first|((with_reducible refine yo ?_);go_must (refine yf rfl rfl Tryz.underlying33 qe rfl rfl 5 rfl ?_ ?_;omega))|(go_at_call 103;go_must (refine(yv _ _ (l.drop 5) HD.out).mono ?_;rintro e w1 ⟨rfl,rfl⟩;rw[HU.out];dsimp only)))
 refine(zm9 _ _ l HV.out).mono ?_;rintro e w2 ⟨rfl,hb2⟩;have hs2:=hb2.size;simp only[World.alloc,Array.size_push]at hs2;have HB2:=hid ((hb2.block w.heap.size (by simp)).trans HB.out);have HV2:=hid (HV.out.below hb2);have HS2:=hid (HS.out.below hb2);have HC2:=hid (HC.out.below hb2);have HW2:=hid (HW.out.trans (hb2.mono (by simp)));generalize hu:u32F l=r;obtain⟨s,se⟩:=r;dsimp only;have HU32:=hid hu;clear hb2 HV HS HC HW HB hu;go_wp2_with (((with_reducible refine yo ?_);go_must (refine zc0 rfl rfl Tryz.underlying33 qe rfl rfl rfl 4 (5+k+n) rfl (by omega) ?_ ?_ ?_;omega;omega)))
 rw[show 5+k+n-4=1+k+n from by omega]at HS2 ⊢;refine(zfn _ _ _ HS2.out).mono ?_;rintro e w3 ⟨rfl,hb3⟩;have hs3:=hb3.size;have hBw:w.heap.size<w3.heap.size:=by omega
 have HB3:=(hb3.block w.heap.size (by omega)).trans HB2.out;have HV3:=hid (HV2.out.below hb3);have HC3:=hid (HC2.out.below hb3);have HW3:=hid (HW2.out.trans (hb3.mono (by omega)));have c0:w3.cell? ⟨w.heap.size,0,none⟩=some (.int .u8 0):=by rw[cell_of_row _ _ _ _ _ _ HB3];rfl
 have c1:w3.cell? ⟨w.heap.size,1,none⟩=some (.slice none 0 0):=by rw[cell_of_row _ _ _ _ _ _ HB3];rfl
 have g0:w3.frozen? ⟨w.heap.size,0,none⟩=false:=frozen_of_row _ _ _ _ _ HB3;have g1:w3.frozen? ⟨w.heap.size,1,none⟩=false:=frozen_of_row _ _ _ _ _ HB3;have HB3':=hid HB3;generalize hq:sumF ((l.drop 4).take (1+k+n))=q;have HQ:=hid hq;clear hb3 HB2 HV2 HS2 HC2 HW2 HB3 hq hs2;have hsq : ¬ s=q:=by have:=hsum;rw[HU32.out,HQ.out]at this;exact this
 clear hsum;have hne:((s:Int) != (q:Int))=true:=by simp;omega
 go_wp2;refine bodyPost_ret (v:=.tuple #[.agg #[.int .u8 0,.slice none 0 0],.int .i64 0,.int .i64 11]) (by simp[results,Tryz.results116,go_sem,c0,c1]) rfl ?_;rw[HF.out,if_neg (by simp),if_neg hlong,if_neg hsh,HU32.out,HQ.out,if_pos hsq];exact⟨_,rfl,World.ownsRow_nil _ _ _ _,(HW3.out.setCell (by simp) _).setCell (by simp) _⟩
theorem zo3 (w:World) (v:Value) (l:List UInt8) (hv:RdB w v l) (hl:l.length<=140737488355328) (h5 : ¬l.length<5) (n k:Nat) (hU:zi (l.drop 5)=(n,k,0)) (hlong : ¬2000<n) (hsh : ¬l.length-5-k<n) (hsum:(u32F l).1=sumF ((l.drop 4).take (1+k+n))) :
  Calls Tryz.prog 116 #[v] w (j5 (zj l) w):=by
 obtain⟨a,cap,rfl,h1,h2,h3,h4⟩:=id hv;have h2:cap<=9223372036854775807:=by unfold maxLen at h2;omega
 have HV:=hid (hv.alloc (.cells #[.int .u8 0,.slice none 0 0] 80));clear h4;have hd:=RdB.drop HV.out 5 (by omega);have hfc:=yh (l.drop 5);rw[hU]at hfc;obtain⟨f1,f2,f3,f4⟩:=hfc;dsimp only at f1 f2 f3 f4;have HU:=hid hU;have hlen:(l.drop 5).length=l.length-5:=by simp
 have HD:=hid hd;clear hd hU;have HF:Hid (zj l=if 0≠0 then ⟨0,[],0,0⟩ else if 2000<n then ⟨0,[],0,12⟩ else if l.length-5-k<n then ⟨0,[],0,10⟩
   else if (u32F l).1≠sumF ((l.drop 4).take (1+k+n)) then ⟨0,[],0,11⟩ else ⟨l.getD 4 0,(l.drop (5+k)).take n,5+k+n,0⟩):=by
  show _=_;rw[zj,if_neg h5,HU.out]
 have HS:=hid (RdB.cut HV.out 4 (5+k+n) (by omega) (by omega));have HC:=hid (RdB.cut HV.out (5+k) (5+k+n) (by omega) (by omega));have HB:Hid ((w.alloc (.cells #[.int .u8 0,.slice none 0 0] 80)).heap[w.heap.size]? = some (.cells #[.int .u8 0,.slice none 0 0] 80 (0,0))):=heap_alloc_new w _;have HW:Hid (Below w.heap.size w (w.alloc (.cells #[.int .u8 0,.slice none 0 0] 80))):=(Below.refl _ _).alloc (Nat.le_refl _) _;go_enter Tryz.func116,Tryz.ntmps116;go_wp2_with (first|((with_reducible refine yo ?_);go_must (refine yf rfl rfl Tryz.underlying33 qe rfl rfl 5 rfl ?_ ?_;omega))|(go_at_call 103;go_must (refine(yv _ _ (l.drop 5) HD.out).mono ?_;rintro e w1 ⟨rfl,rfl⟩;rw[HU.out];dsimp only)))
 refine(zm9 _ _ l HV.out).mono ?_;rintro e w2 ⟨rfl,hb2⟩;have hs2:=hb2.size;simp only[World.alloc,Array.size_push]at hs2;have HB2:=hid ((hb2.block w.heap.size (by simp)).trans HB.out);have HV2:=hid (HV.out.below hb2);have HS2:=hid (HS.out.below hb2);have HC2:=hid (HC.out.below hb2);have HW2:=hid (HW.out.trans (hb2.mono (by simp)));generalize hu:u32F l=r;obtain⟨s,se⟩:=r;dsimp only;have HU32:=hid hu;clear hb2 HV HS HC HW HB hu;go_wp2_with (((with_reducible refine yo ?_);go_must (refine zc0 rfl rfl Tryz.underlying33 qe rfl rfl rfl 4 (5+k+n) rfl (by omega) ?_ ?_ ?_;omega;omega)))
 rw[show 5+k+n-4=1+k+n from by omega]at HS2 ⊢;refine(zfn _ _ _ HS2.out).mono ?_;rintro e w3 ⟨rfl,hb3⟩;have hs3:=hb3.size;have hBw:w.heap.size<w3.heap.size:=by omega
 have HB3:=(hb3.block w.heap.size (by omega)).trans HB2.out;have HV3:=hid (HV2.out.below hb3);have HC3:=hid (HC2.out.below hb3);have HW3:=hid (HW2.out.trans (hb3.mono (by omega)));have c0:w3.cell? ⟨w.heap.size,0,none⟩=some (.int .u8 0):=by rw[cell_of_row _ _ _ _ _ _ HB3];rfl
 have c1:w3.cell? ⟨w.heap.size,1,none⟩=some (.slice none 0 0):=by rw[cell_of_row _ _ _ _ _ _ HB3];rfl
 have g0:w3.frozen? ⟨w.heap.size,0,none⟩=false:=frozen_of_row _ _ _ _ _ HB3;have g1:w3.frozen? ⟨w.heap.size,1,none⟩=false:=frozen_of_row _ _ _ _ _ HB3;have HB3':=hid HB3;generalize hq:sumF ((l.drop 4).take (1+k+n))=q;have HQ:=hid hq;clear hb3 HB2 HV2 HS2 HC2 HW2 HB3 hq hs2;have hsq:s=q:=by have:=hsum;rw[HU32.out,HQ.out]at this;exact this
 clear hsum;subst hsq;obtain⟨_,_,e4,_,_,_,h4⟩:=id HV3.out;simp only[Value.slice.injEq,true_and]at e4;obtain⟨rfl,rfl⟩:=e4;obtain⟨g,o,rfl,hg,hc⟩:=h4 (by omega);have hc4:w3.cell? ⟨g,o+4,none⟩=some (.int .u8 ((l.getD 4 0).toNat:Int)):=by
  rw[hc 4 (by omega),zb1 l 4 (by omega),List.getD_eq_getElem?_getD,List.getElem?_eq_getElem (by omega)];rfl
 have b4:(4:Int)<(l.length:Int):=by omega
 have w1:IntKind.i64.wrap (5+(k:Int))=5+(k:Int):=by rw[IntKind.wrap_i64];omega
 have b5:(0:Int)<=5+(k:Int):=by omega
 have b6:5+(k:Int)<=5+(k:Int)+(n:Int):=by omega
 have b7:5+(k:Int)+(n:Int)<=(cap:Int):=by omega
 have b8:(0:Int)<=5+(k:Int)+(n:Int):=by omega
 generalize hx:l.getD 4 0=x at hc4;have HX:=hid hx;clear h4 hc hx;have t1:(5+(k:Int)).toNat=5+k:=by omega
 have t2:(5+(k:Int)+(n:Int)).toNat=5+k+n:=by omega
 have t3:(if cap=5+k then some (⟨g,o,none⟩:Addr) else some ⟨g,o+(5+k),none⟩)=yq (some ⟨g,o,none⟩) cap (5+k) 1:=by
  unfold yq;split
  ·rfl
  ·simp[Addr.add]
 have t4:5+k+n-(5+k)=n:=by omega
 rw[t4]at HC3;have HC4:=hid HC3.out.drew;have HC5:=hid HC4.out.full;have hgB:=RdB.lt hv (by omega);have hgn : ¬ g=w.heap.size:=by omega
 generalize hL:(l.drop (5+k)).take n=L at HC5 HC4 HC3;have hln:L.length<=140737488355328:=by rw[<-hL];simp;omega
 have HL:=hid hL;clear hL HC3 HC4;have Hc4:=hid hc4;have hg3:g<w3.heap.size:=hg;go_wp2;go_region_held3 (fun w'=>w'.cell? ⟨g,o+4,none⟩=some (.int .u8 ((x.toNat:Nat):Int))) (first|go_keep|exact(hb4.cell (p:=⟨g,o+4,none⟩) (by simpa using hg3)).trans Hc4.out|exact(zbe (Below.heap_setCell _ _ _ _ hgn) _).trans ((zbe (Below.heap_setCell _ _ _ _ hgn) _).trans c4')) (first|(go_at_call 47;go_must (refine(zdo _ n (cap-(5+k)) _ (by omega) (by omega)).mono ?_;rintro e w' ⟨rfl,rfl⟩))|(go_at_call 83;go_must (refine(zbg _ _ L HC5.out hln).mono ?_;rintro e w4 ⟨dv,rfl,ho4,hb4⟩;obtain⟨da,dc,rfl⟩:=ho4.slice;have c0':=(hb4.cell (p:=⟨w.heap.size,0,none⟩) (by simp;omega)).trans ((World.cell?_drew _ _).trans c0);have c1':=(hb4.cell (p:=⟨w.heap.size,1,none⟩) (by simp;omega)).trans ((World.cell?_drew _ _).trans c1);have g0':=(hb4.frozen (p:=⟨w.heap.size,0,none⟩) (by simp;omega)).trans ((World.frozen?_drew _ _).trans g0);have g1':=(hb4.frozen (p:=⟨w.heap.size,1,none⟩) (by simp;omega)).trans ((World.frozen?_drew _ _).trans g1);have c4':=(hb4.cell (p:=⟨g,o+4,none⟩) (by simpa using hg3)).trans Hc4.out;have HO4:=hid ho4;clear ho4)));go_wp2;refine bodyPost_ret (v:=.tuple #[.agg #[.int .u8 ((x.toNat:Nat):Int),.slice da L.length dc],.int .i64 (5+(k:Int)+(n:Int)),.int .i64 0]) (by simp[results,Tryz.results116,go_sem,c0',c1']) rfl ?_;rw[HF.out,if_neg (by simp),if_neg hlong,if_neg hsh,HU32.out,HQ.out,if_neg (by simp),HL.out,HX.out];refine⟨_,by rw[show 5+(k:Int)+(n:Int)=((5+k+n:Nat):Int) from by omega];rfl,?_,((HW3.out.drew.trans (hb4.mono (B':=w.heap.size) (by simp;omega))).setCell (by simp) _).setCell (by simp) _⟩;refine OwnB.low (base:=w3.heap.size) (zcc HO4.out fun j hj=>?_) (by omega);have hjl:=HO4.out.lt j hj;have hjl2:w3.heap.size<=j:=hjl.1;clear hjl;rw[Below.heap_setCell _ _ _ _ (by simp;omega),Below.heap_setCell _ _ _ _ (by simp;omega)]
theorem zmi (w:World) (v:Value) (l:List UInt8) (hv:RdB w v l) (hl:l.length<=140737488355328) (h5 : ¬l.length<5) (hU:zi (l.drop 5)=(0,0,10)) :
  Calls Tryz.prog 116 #[v] w (j5 (zj l) w):=by
 obtain⟨a,cap,rfl,h1,h2,h3,h4⟩:=id hv;have h2:cap<=9223372036854775807:=by unfold maxLen at h2;omega
 have HV:=hid (hv.alloc (.cells #[.int .u8 0,.slice none 0 0] 80));clear h4;have hd:=RdB.drop HV.out 5 (by omega);have hfc:=yh (l.drop 5);rw[hU]at hfc;obtain⟨f1,f2,f3,f4⟩:=hfc;dsimp only at f1 f2 f3 f4;have HU:=hid hU;have hlen:(l.drop 5).length=l.length-5:=by simp
 have HD:=hid hd;clear hd hU;have HF:Hid (zj l=⟨0,[],0,10⟩):=by
  show _=_;rw[zj,if_neg h5,if_pos (by rw[HU.out];simp),HU.out]
 clear f1 f2 f3 f4;go_enter Tryz.func116,Tryz.ntmps116;go_wp2_with (first|((with_reducible refine yo ?_);go_must (refine yf rfl rfl Tryz.underlying33 qe rfl rfl 5 rfl ?_ ?_;omega))|(go_at_call 103;go_must (refine(yv _ _ (l.drop 5) HD.out).mono ?_;rintro e w1 ⟨rfl,rfl⟩;rw[HU.out];dsimp only) ))
 refine bodyPost_ret (v:=.tuple #[.agg #[.int .u8 0,.slice none 0 0],.int .i64 0,.int .i64 10]) (by simp[results,Tryz.results116,go_sem]) rfl ?_;rw[HF.out];exact⟨_,rfl,World.ownsRow_nil _ _ _ _,(Below.refl _ _).alloc (Nat.le_refl _) _⟩
theorem zmh (w:World) (v:Value) (l:List UInt8) (hv:RdB w v l) (hl:l.length<=140737488355328) (h5 : ¬l.length<5) (hU:zi (l.drop 5)=(0,0,11)) :
  Calls Tryz.prog 116 #[v] w (j5 (zj l) w):=by
 obtain⟨a,cap,rfl,h1,h2,h3,h4⟩:=id hv;have h2:cap<=9223372036854775807:=by unfold maxLen at h2;omega
 have HV:=hid (hv.alloc (.cells #[.int .u8 0,.slice none 0 0] 80));clear h4;have hd:=RdB.drop HV.out 5 (by omega);have hfc:=yh (l.drop 5);rw[hU]at hfc;obtain⟨f1,f2,f3,f4⟩:=hfc;dsimp only at f1 f2 f3 f4;have HU:=hid hU;have hlen:(l.drop 5).length=l.length-5:=by simp
 have HD:=hid hd;clear hd hU;have HF:Hid (zj l=⟨0,[],0,11⟩):=by
  show _=_;rw[zj,if_neg h5,if_pos (by rw[HU.out];simp),HU.out]
 clear f1 f2 f3 f4;go_enter Tryz.func116,Tryz.ntmps116;go_wp2_with (first|((with_reducible refine yo ?_);go_must (refine yf rfl rfl Tryz.underlying33 qe rfl rfl 5 rfl ?_ ?_;omega))|(go_at_call 103;go_must (refine(yv _ _ (l.drop 5) HD.out).mono ?_;rintro e w1 ⟨rfl,rfl⟩;rw[HU.out];dsimp only) ))
 refine bodyPost_ret (v:=.tuple #[.agg #[.int .u8 0,.slice none 0 0],.int .i64 0,.int .i64 11]) (by simp[results,Tryz.results116,go_sem]) rfl ?_;rw[HF.out];exact⟨_,rfl,World.ownsRow_nil _ _ _ _,(Below.refl _ _).alloc (Nat.le_refl _) _⟩
theorem zbf (w:World) (v:Value) (l:List UInt8) (hv:RdB w v l) (hl:l.length<=140737488355328) :
  Calls Tryz.prog 116 #[v] w (j5 (zj l) w):=by
 by_cases h5:l.length<5
 ·exact zmg w v l hv hl h5
 ·have hfc:=yh (l.drop 5);generalize hU:zi (l.drop 5)=r at hfc;obtain⟨n,k,er⟩:=r;obtain⟨f1,f2,f3,f4⟩:=hfc;dsimp only at f1 f2 f3 f4;rcases f4 with⟨rfl,_⟩|⟨f4,rfl,rfl⟩
  ·by_cases hlong:2000<n
   ·exact zo2 w v l hv hl h5 n k hU hlong
   ·by_cases hsh:l.length-5-k<n
    ·exact zrg w v l hv hl h5 n k hU hlong hsh
    ·by_cases hsum:(u32F l).1=sumF ((l.drop 4).take (1+k+n))
     ·exact zo3 w v l hv hl h5 n k hU hlong hsh hsum
     ·exact zrh w v l hv hl h5 n k hU hlong hsh hsum
  ·rcases f4 with rfl|rfl
   ·exact zmi w v l hv hl h5 hU
   ·exact zmh w v l hv hl h5 hU
end
end Go.Proofs.YtnadlnmclameiaaGreatDoor
