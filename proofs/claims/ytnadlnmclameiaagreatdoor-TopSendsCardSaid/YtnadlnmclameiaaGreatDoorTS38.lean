/- part 38 -/
import Derived.Test.YtnadlnmclameiaaGreatDoorTS37
set_option maxRecDepth 100000
set_option maxHeartbeats 8000000
set_option linter.all false
namespace Go.Proofs.YtnadlnmclameiaaGreatDoor
section
open Go.RowKit Go.Maps
theorem zjz (w:World) (v:Value):Calls Tryz.prog 53 #[v,.int .i64 2] w fun e w'=>e = .returned (.int .i64 2)/\w=w':=by
 go_enter Tryz.func53,Tryz.ntmps53;go_wp2_with fail;go_ret;exact⟨rfl,rfl⟩
theorem zo8 (w:World) (S:Nat->Prop) (v:Value) (xs:List Int) (h:RdS rI w S v xs) (hl:xs.length<=1000000) :
  Calls Tryz.prog 48 #[v] w fun e w'=>∃ v',e = .returned v'/\OwnS rI 3 w' w.heap.size (fun _=>False) v' xs/\Ext w w':=by
 have hnil:=fun w=>Lib.run_eql_slice_nil (P:=Tryz.prog) w;obtain⟨a,cap,rfl,hc1,hc2⟩:=h.slice;have H:=hid h;cases a with
 | none=>
  have h0:xs=[]:=by
   cases xs with
   | nil=>rfl
   | cons f fs=>obtain⟨g,o,cap',cs,e,_⟩:=h.at 0 (by simp);simp at e
  subst h0;clear h;go_enter Tryz.func48,Tryz.ntmps48;go_wp2_with fail;go_ret;exact⟨_,rfl,OwnS.nil _ _ _ _ _,Ext.refl _⟩
 | some a=>
  have hx0:Ext w (w.alloc (.cells #[] 3)):=(Ext.refl w).alloc _;obtain⟨zs,hzs,hsrc,hall⟩ : ∃ gs:List (List Value × Int),xs=gs.map (·.2)/\Src Tryz.prog rI.size 23 (.slice (some a) xs.length cap) gs.length (cellsOf gs) (w.alloc (.cells #[] 3))/\∀ p∈gs,rI.rd (w.alloc (.cells #[] 3)) S p.1 p.2:=by
   obtain⟨v',gs,e,e2,h1,h2,h3⟩:=h.ext hx0;obtain rfl:=List.singleton_inj.1 e;refine⟨gs,e2,zb5 Tryz.underlying23 h1 (fun u hu=>?_),h3⟩;obtain⟨p,hp,hu⟩:=List.mem_flatMap.1 hu;exact rI.one (h3 p hp) u hu
  have HG:=hid hzs;have hgl:zs.length=xs.length:=by rw[hzs,List.length_map]
  have HSRC:=hid hsrc;have HALL:=hid hall;have HGL:=hid hgl;have HA:=OwnS.made rI 3 w (fun _=>False) (fun h=>h);clear h hzs hsrc hall hgl hx0;go_enter Tryz.func48,Tryz.ntmps48;go_wp2_with (at_builtin;go_must (refine vw rI rfl _ _ _ _ _ (.int .i64 0) 8 rfl Tryz.underlying23 zht rfl w.heap.size _ _ [] rfl HA _ zs rfl HSRC.out (fun p hp=>HALL.out p hp) (fun _ h=>h.elim) (by have:=HGL.out;simp only[List.length_nil,Nat.zero_add];omega) (by have:=HGL.out;simp only[List.length_nil,Nat.zero_add];omega) (by simp) ?_;intro v' w' k1 k2 k3;rw[List.nil_append,<-HG.out]at k1))
  go_ret;exact⟨_,rfl,k1,((Ext.refl w).alloc _).grown k2 (fun k hk=>by cases hk;exact Nat.le_refl _)⟩
theorem RdS.atSf {w:World}{S:Nat->Prop}{v:Value}{xs:List SFr} (h:RdS rSf w S v xs) (i:Nat) (hi:i<xs.length) :
  ∃ g o cap u,v = .slice (some ⟨g,o,none⟩) xs.length cap/\g<w.heap.size/\S g/\w.cell? ⟨g,o+i*2,none⟩=some (.int .u8 ((xs[i].1.toNat:Nat):Int))/\w.cell? ⟨g,o+i*2+1,none⟩=some u/\RdB w u xs[i].2/\(0<xs[i].2.length->∀ k,u.ownBlock=some k->S k):=by
 obtain⟨g,o,cap,cs,rfl,hg,hS,_,hc,hr⟩:=h.at i hi;obtain⟨c1,c2,rfl,rfl,u,rfl,h2,h3⟩:=hr;exact⟨g,o,cap,u,rfl,hg,hS,hc 0 _ rfl,hc 1 _ rfl,h2,h3⟩
end
section
open Go.RowKit Go.Maps
theorem zxa:(Tryz.prog.info? 33).map (fun i=>(i.zero,i.size,i.bytes))=some (some (.slice none 0 0),1,24):=by kernel_rfl
theorem zrw {w:World}{ops:Array Oper}{rest:List Oper}{o:Oper}{a:Act}{Q:Exit->Act->World->Prop} (hgd:o.guard=none) (s x:Operand)
  (ho:o.op = .call { callee:=.builtin .append,args:=#[s,x],argTypes:=#[81,81] }) (base:Nat) (S:Nat->Prop)
  (v:Value) (xs:List SFr) (hs:a.eval s=v) (happ:OwnS rSf 80 w base S v xs)
  (y:Value) (ys:List SFr) (hx:a.eval x=y) (hy:RdS rSf w S y ys) (hSlt : ∀ k,S k->k<w.heap.size) (hl:xs.length+ys.length<=1000000) (hbase:base<=w.heap.size)
  (h : ∀ v' w',OwnS rSf 80 w' base S v' (xs++ys)->w.grownBy w' v.ownBlock->(∀ k,v'.ownBlock=some k->v.ownBlock=some k\/w.heap.size<=k)->wpList Tryz.prog ops Q rest (a.put o.dst v') w'):wpList Tryz.prog ops Q (o :: rest) a w:=by
 obtain⟨zs,rfl,h1,h2⟩:=zt8 hy;rw[List.length_map]at hl;exact vw rSf hgd s x 81 81 80 _ 32 ho Tryz.underlying81 zkr rfl base S v xs hs happ y zs hx h1 h2 hSlt (by omega) (by omega) hbase fun v' w' k1 k2 k3=>h v' w' k1 k2 k3
theorem zpn (w:World) (n:Int):Src Tryz.prog rI.size 23 (.slice (some ⟨w.heap.size,0,none⟩) 1 1) ([([.int .i64 n],n)]:List (List Value × Int)).length (cellsOf [([.int .i64 n],n)]) (w.alloc (.cells #[.int .i64 n] 3)):=by
 refine zby Tryz.underlying23 (heap_alloc_new _ _) (fun x hx=>?_) rfl;simp only[cellsOf,List.flatMap_cons,List.flatMap_nil,List.append_nil,List.mem_cons,List.not_mem_nil,or_false]at hx;rcases hx with rfl;rfl
theorem znv (w:World) (u:Value) (hu:u.oneCell'=true:=by rfl) {L:List UInt8}:Src Tryz.prog rBs.size 126 (.slice (some ⟨w.heap.size,0,none⟩) 1 1) ([([u],L)]:List (List Value × List UInt8)).length (cellsOf [([u],L)]) (w.alloc (.cells #[u] 33)):=by
 refine zby Tryz.underlying126 (heap_alloc_new _ _) (fun x hx=>?_) rfl;simp only[cellsOf,List.flatMap_cons,List.flatMap_nil,List.append_nil,List.mem_cons,List.not_mem_nil,or_false]at hx;rcases hx with rfl;exact hu
section
variable {w W W':World}{g:Nat}{ρ:Nat->Option DRol}{N:Nat}{d:Dv}{gl n:Nat}{C H:Int->Bk}{P:(Int->Bk)->Prop}{φ:Nat->Option FRol}{gf:Nat}{k:FsS}{Sd:Nat->Prop}{gs:Nat}{fv zv:Value}{fs:List SFr}{zs:List Int}
def zxj (w W:World) (g:Nat) (ρ:Nat->Option DRol) (N:Nat) (d:Dv) (gl n:Nat) (φ:Nat->Option FRol) (gf:Nat) (gc ga gm:Nat) (Sd:Nat->Prop) (gs:Nat) (fv zv:Value) (fs:List SFr) (old:Option (List UInt8)) (b:List UInt8) (f:SFr) (e:Ending) (W':World):Prop:=
 ∃ ρ' d' φ',RolNew ρ ρ' W/\FNew φ φ' W/\Keep (fun j=>¬ FsT ρ gl φ j/\¬ SegS Sd gs fv zv j) W W'/\
  ((e = .returned (.int .i64 0)/\(d.fuse = -1->d'.fuse = -1)/\∃ C' gt' gn' qn' lv' fv' zv' Sd',LogAt w W' g ρ' (N+21000) d' gl 64 (n+1) C'/\
    FsP W' φ' gf gl C' ⟨some b.length,nbN b.length,nbN b.length,nbN b.length,some b.length⟩ gc ga gm gt' gn' qn' lv'/\FsHome C' (some b)/\(∀ i:Nat,i<nbN b.length->(C' (36+(i:Int))).length=512)/\
    SegP W' Sd' gs gf fv' zv' (fs++[f]) [(b.length:Int)]/\(∀ j,φ' j≠none->ρ' j=none/\j≠gl/\w.heap.size<=j)/\∀ j,SegS Sd' gs fv' zv' j->¬ FsT ρ' gl φ' j/\w.heap.size<=j/\(SegS Sd gs fv zv j\/W.heap.size<=j))\/
   (e = .returned (.int .i64 2)/\d.fuse≠ -1/\DownAt w W' g ρ' (N+21000) d' 64 fun s=>FsImg n s old\/FsImg (n+1) s (some b)))
theorem zrb (S1:Nat->Prop) (vf:Value) (kd:UInt8) (data:List UInt8) (o:Option (List UInt8)) (b:List UInt8) (hob:b=o.getD []) (lst:Nat) (dir:Option Nat) {gc ga gm:Nat}{gt:Option Nat}{gn:Nat}{qn:Option Nat}{lv:Value} (hb:FsB w W g ρ N d gl n C (fun s=>FsHome s o) φ gf ⟨o.map List.length,nbN b.length,lst,nbN b.length,dir⟩ gc ga gm gt gn qn lv) (hN:N<=999000000) (hls:lst<=nbN b.length)
  (hC : ∀ i:Nat,i<nbN b.length->pre b b.length i <+: C (36+(i:Int))/\(C (36+(i:Int))).length=512) (hlen:b.length+(putF kd data).length<=8192) (hn:n<=100000000) (hD : ∀ i:Nat,i<16->C (20+(i:Int))=yj (dirB dir) i)
  (hsp:SegP W Sd gs gf fv zv fs (o.map fun b=>(b.length:Int)).toList) (hfs:fs.length<=100000) (hS : ∀ j,SegS Sd gs fv zv j->¬ FsT ρ gl φ j/\w.heap.size<=j) (hf:RdS rSf W S1 vf [(kd,data)]) (hd:data.length<=2000) :
  Calls Tryz.prog 25 #[.pointer (some ⟨gs,0,none⟩),vf] W (zxj w W g ρ N d gl n φ gf gc ga gm Sd gs fv zv fs o (b++putF kd data) (kd,data)):=by
 have HBF:=hid hb;have HCC:=hid hC;have HDD:=hid hD;have HLEN:=hid hlen;have HSS:=hid hS;have HOB:=hid hob;have HFSL:=hid hfs;obtain⟨zs,hzs⟩ : ∃ zs,zs=(o.map fun b=>(b.length:Int)).toList:=⟨_,rfl⟩
 have hz:zs.length<=1:=by rw[hzs];cases o <;> simp
 rw[<-hzs]at hsp;have HZS:=hid hzs;clear hb hC hD hlen hS hzs hob hfs;have HSP:=hid hsp;obtain⟨g1,o1,cap1,u1,rfl,hg1,-,d0,d1,hu,-⟩:=hf.atSf 0 (by simp);simp only[List.getElem_cons_zero,List.length_singleton,Nat.zero_mul,Nat.add_zero]at d0 d1 hu;obtain⟨au,cu,rfl,-⟩:=id hu;have HU:=hid hu;have HD:=hid (show ∀ w',Ext W w'->w'.cell? ⟨g1,o1,none⟩=some (.int .u8 ((kd.toNat:Nat):Int))/\w'.cell? ⟨g1,o1+1,none⟩=some (.slice au data.length cu) from fun w' hx=>⟨Ext.cellS hx d0,Ext.cellS hx d1⟩);have c2:W.cell? ⟨gs,2,none⟩=some zv:=(cr 2 hsp.head)
 obtain⟨az,cz,rfl⟩:=hsp.sizes.slice;have HDL:=hid hd;clear hsp hf hu d0 d1;go_enter Tryz.func25,Tryz.ntmps25;go_wp2_with fail;refine(zo8 W _ _ zs HSP.out.sizes.rdT (by omega)).mono ?_;rintro e w1 ⟨v1,rfl,ho1,hx1⟩;have HO1:=hid ho1;have HX1:=hid hx1;obtain⟨a1,c1,rfl⟩:=ho1.slice;clear ho1 hx1 c2;go_wp2_with fail;obtain⟨nz,hnz⟩ : ∃ nz,nz=zs.length:=⟨_,rfl⟩
 go_loopw [6,7,27] (fun u6 u7 u27 wr=>(u27 = .int .i64 0/\wr=w1/\u6 = .slice none 0 0/\u7 = .slice none 0 0)\/(u27 = .int .i64 1/\Ext w1 wr/\OwnZ wr w1.heap.size u6 [(kd,data)]/\(∃ Sb,OwnS rBs 33 wr w1.heap.size Sb u7 [putF kd data]/\∀ j,Sb j->w1.heap.size<=j))) (fun _ _ u27 _=>1-(intOf u27).toNat);case atStart=>exact .inl ⟨rfl,rfl,rfl,rfl⟩
 case round=>
  rcases hrel with⟨rfl,rfl,rfl,rfl⟩|⟨rfl,hx,h6,h7⟩
  ·obtain⟨d0,d1⟩:=HD.out wr HX1.out;go_wp2_with fail;obtain⟨g9,hg9⟩ : ∃ g9,g9=wr.heap.size:=⟨_,rfl⟩
   have hn9:=heap_alloc_new wr (.cells #[.int .u8 ((kd.toNat:Nat):Int),.slice au data.length cu] 80);have hx9:Ext wr (wr.alloc (.cells #[.int .u8 ((kd.toNat:Nat):Int),.slice au data.length cu] 80)):=(Ext.refl _).alloc _;rw[<-hg9]at hn9 ⊢;generalize (wr.alloc (.cells #[.int .u8 ((kd.toNat:Nat):Int),.slice au data.length cu] 80))=w2 at hn9 hx9 ⊢;have HN9:=hid hn9;have HX9:=hid hx9;have HU2:=hid (HU.out.ext (HX1.out.trans hx9));clear hn9 hx9 hg9 d0 d1;refine(zck w2 _ [] kd _ data (RdB.nil _) HU2.out hd (by simp)).mono ?_;rintro e w3 ⟨v3,rfl,ho3,hb3⟩;rw[List.nil_append]at ho3;obtain⟨L3,hL3⟩ : ∃ L3,L3=putF kd data:=⟨_,rfl⟩
   rw[<-hL3]at ho3;have HL3:=hid hL3;clear hL3;obtain⟨a3,c3,rfl⟩:=ho3.slice;have HO3:=hid ho3;have hx3:=Ext.of hb3;have HX3:=hid hx3;have hr3:=yy hx3 HN9.out;have HR3:=hid hr3;have e0:w3.cell? ⟨g9,0,none⟩=some (.int .u8 ((kd.toNat:Nat):Int)):=(cr 0 hr3)
   have e1:w3.cell? ⟨g9,1,none⟩=some (.slice au data.length cu):=(cr 1 hr3)
   have HU3:=hid (HU2.out.ext hx3);clear ho3 hb3 hx3 hr3;go_wp2_with fail;refine(zpu w3 kd _ data HU3.out (by omega)).mono ?_;rintro e w4 ⟨v4,rfl,ho4,hx4⟩;obtain⟨a4,c4,rfl⟩:=ho4.slice;have HO4:=hid ho4;have HX4:=hid hx4;clear ho4 hx4 e0 e1;have hz9:=HX9.out.size;have hz3:=HX3.out.size;have hz4:=HX4.out.size;have hsrc:=zpo w4 w4.heap.size kd (.slice a4 data.length c4) rfl rfl;have HSRC:=hid hsrc;clear hsrc;go_wp2_with (first|(at_builtin;refine zjn rfl _ _ _ rfl wr.heap.size (.slice none 0 0) [] rfl (OwnZ.nil _ _) _ kd (.slice a4 data.length c4) data rfl HSRC.out ((zk HO4.out).alloc _) (fun _ b _ h=>by simp[Value.ownBlock]at h) (fun hn b hb=>by have:=(World.ownsRow.lt HO4.out b hb).1;omega) (by simp) (by simp;omega) ?_;intro v5 w5 k1 k2 k3 k4;rw[List.nil_append]at k1;obtain⟨a5,c5,rfl⟩:=k1.slice;have hx5:Ext w4 w5:=((Ext.refl w4).alloc _).grown k2 (fun k hk=>by simp[Value.ownBlock]at hk);have HZ5:=hid k1;have HX5:=hid hx5;clear k1 k2 k3 k4 hx5)|(at_builtin;refine vw rBs rfl _ _ _ _ _ (.slice none 0 0) 24 rfl Tryz.underlying126 zxa rfl wr.heap.size (fun j=>(Value.slice a3 L3.length c3).ownBlock=some j) (.slice none 0 0) [] rfl (OwnS.nil _ _ _ _ _) _ [([.slice a3 L3.length c3],L3)] rfl (znv _ _) ?_ ?_ ?_ ?_ ?_ ?_;rotate_left 5;intro v6 w6 k1 k2 k3;have HL6:=hid k1;have HG6:=hid k2;clear k1 k2 k3))
   case refine_1=>
    intro p hp;obtain rfl:=List.mem_singleton.1 hp;exact⟨_,rfl,((zk HO3.out).ext (HX4.out.trans HX5.out)).alloc _,fun _ k hk=>hk⟩
   case refine_2=>
    intro k hk;have:=(World.ownsRow.lt HO3.out k hk).2;have:=HX5.out.size;simp only[World.size_alloc];omega
   case refine_3=>simp
   case refine_4=>simp
   case refine_5=>
    have:=HX5.out.size;simp only[World.size_alloc];omega
   have hx6:Ext w5 w6:=((Ext.refl w5).alloc _).grown HG6.out (fun k hk=>by simp[Value.ownBlock]at hk);refine⟨.inr ⟨rfl,HX9.out.trans (HX3.out.trans (HX4.out.trans (HX5.out.trans hx6))),HZ5.out.below hx6,(fun j=>(Value.slice a3 L3.length c3).ownBlock=some j),?_,fun j hj=>?_⟩,by simp[intOf]⟩
   ·have h1:=HL6.out;rw[List.nil_append,List.map_singleton]at h1;rw[<-HL3.out];exact h1
   ·have:=(World.ownsRow.lt HO3.out j hj).1;omega
  ·obtain⟨F,hF⟩ : ∃ F,F=putF kd data:=⟨_,rfl⟩
   rw[<-hF]at h7;have hln:=HLEN.out;rw[<-hF]at hln;have HF:=hid hF;have HLN:=hid hln;clear hF hln;have HXR:=hid hx;have H6:=hid h6;have H7:=hid h7;clear hx h6 h7;obtain⟨a6,c6,rfl⟩:=H6.out.slice;obtain⟨Sb,hl7,hsb⟩:=H7.out;obtain⟨a7,c7,rfl⟩:=hl7.slice;have HL7:=hid hl7;have HSB:=hid hsb;clear hl7 hsb H7;have HX1R:=hid (HX1.out.trans HXR.out);have HB2:=hid (HBF.out.ext HX1R.out);have HO2:=hid (HO1.out.ext HXR.out);have HSP2:=hid (HSP.out.ext HX1R.out);have hlate : ∀ j,W.heap.size<=j->¬ FsT ρ gl φ j:=fun j hj=>HBF.out.at.late hj;have HLATE:=hid hlate;clear hlate;obtain⟨uq,huq⟩ : ∃ uq,uq=Value.slice a1 zs.length c1:=⟨_,rfl⟩
   obtain⟨wq,hwq⟩ : ∃ wq,wq=wr:=⟨_,rfl⟩
   have HUQ:=hid huq;have HWQ:=hid hwq;have HUB:=hid (show ∀ j,uq.ownBlock=some j->W.heap.size<=j/\j<w1.heap.size from fun j hj=>by rw[huq]at hj;exact HO1.out.lt j hj);clear huq hwq;simp only[List.length_singleton];go_wp2_with fail;go_loopw [5,50] (fun u5 u50 wr2=>(u50 = .int .i64 0/\wr2=wr/\u5 = .slice a1 zs.length c1)\/(u50 = .int .i64 1/\∃ a5 c5,u5 = .slice a5 1 c5/\∃ ρ3 d3 φ3 gn3 qn3 C3,RolNew ρ ρ3 wq/\FNew φ φ3 wq/\Keep (fun j=>¬ FsT ρ gl φ j/\uq.ownBlock≠some j) wq wr2/\(d.fuse = -1->d3.fuse = -1)/\
     FsB w wr2 g ρ3 (N+20000) d3 gl n C3 (fun s=>FsHome s o) φ3 gf ⟨some (b.length+F.length),nbN (b.length+F.length),lst,nbN (b.length+F.length),dir⟩ gc ga gm gt gn3 qn3 lv/\
     (∀ i:Nat,i<nbN (b.length+F.length)->pre (b++F) (b.length+F.length) i <+: C3 (36+(i:Int))/\(C3 (36+(i:Int))).length=512)/\(∀ j:Int,j<36->C3 j=C j)/\OwnS rI 3 wr2 W.heap.size (fun _=>False) u5 [((b.length+F.length:Nat):Int)]/\∀ j,u5.ownBlock=some j->¬ FsT ρ3 gl φ3 j/\(uq.ownBlock=some j\/wq.heap.size<=j))) (fun _ u50 _=>1-(intOf u50).toNat)
   case atStart=>exact .inl ⟨rfl,rfl,rfl⟩
   case round=>
    rcases hrel with⟨rfl,rfl,rfl⟩|⟨rfl,a5,c5,rfl,ρ3,d3,φ3,gn3,qn3,C3,hrl3,hnw3,hk3,hfu3,hb3,hC3,hdir3,ho3,hu3⟩
    ·obtain⟨g7,o7,cap7,cs7,e7,hg7,hs7,-,hc7,u7,rfl,hu7,hu7s⟩:=HL7.out.rd.at 0 (by simp);simp only[Value.slice.injEq,List.length_singleton,true_and]at e7;obtain⟨rfl,rfl⟩:=e7;have d7:=hc7 0 _ rfl;simp only[Nat.zero_mul,Nat.add_zero,List.getElem_cons_zero]at d7 hu7;obtain⟨a8,c8,rfl,-⟩:=id hu7;have HU7:=hid hu7;have hF0:0<F.length:=by rw[HF.out,ko];omega
     have HB8:=hid (show ∀ j,(Value.slice a8 F.length c8).ownBlock=some j->w1.heap.size<=j/\j<wr.heap.size from fun j hj=>⟨by
       rcases hu7s hF0 j hj with h|h
       ·exact HSB.out j h
       ·exact(HL7.out.lt j h).1,Rd.block_lt HU7.out hF0 j hj⟩)
     clear hc7 hu7 hu7s hs7;have HNS:=hid (show o=none\/∃ b0,o=some b0 by cases o with|none=>exact .inl rfl|some b0=>exact .inr ⟨b0,rfl⟩);rcases HNS.out with ho|⟨b0,ho⟩;case' inl=>
      have hb0:b=[]:=by rw[HOB.out,ho];rfl
      have hzs:zs=[]:=by rw[HZS.out,ho];rfl
      have hbl:b.length=0:=by rw[hb0];rfl
      have ho2:=HO2.out;rw[hzs,List.length_nil]at ho2;rw[hzs,List.length_nil];have HBL:=hid hbl;have HZL:=hid (show zs.length=0 by rw[hzs];rfl);have HZ0:=hid hzs;have hxd:Ext wr wr.drew:=(Ext.refl _).drew;have HXD:=hid hxd;have HCR:=hid (zwl (HB2.out.ext hxd) (by rw[ho];rfl));have e0:wr.cell? ⟨gs,0,none⟩=some (.pointer (some ⟨gf,0,none⟩)):=(cr 0 HSP2.out.head)
      have hn1:IntKind.i64.wrap (0-1) = -1:=by decide
      have HO5:=hid ho2;clear hzs ho2 hb0 hbl ho;go_upto_region 20 with fail;refine zr (fun w'=>w'.cell? ⟨gs,0,none⟩=some (.pointer (some ⟨gf,0,none⟩))) [6,7] (by kernel_rfl) (Ext.cellS hxd e0) (fun hS=>?_);(refine za 0 rfl ?_;(try simp only[Act.put,tq0,tq1,tq2,tq3,tq4,tq5]));(refine za 1 rfl ?_;(try simp only[Act.put,tq0,tq1,tq2,tq3,tq4,tq5]));(refine za 2 rfl ?_;(try simp only[Act.put,tq0,tq1,tq2,tq3,tq4,tq5]));(refine za 3 rfl ?_;(try simp only[Act.put,tq0,tq1,tq2,tq3,tq4,tq5]));(refine za 4 rfl ?_;(try simp only[Act.put,tq0,tq1,tq2,tq3,tq4,tq5]));refine ze (rs:=[5]) (by kernel_rfl) (by decide) (AllT.consS rfl (fun K hK=>?_) AllT.nil);go_simp;refine(zdn wr.drew).mono ?_;rintro e wn ⟨rfl,rfl⟩;(refine hK.out _ _ (Ext.cellS HXD.out e0) (fun hS=>?_);clear hK K);refine ze (rs:=[6]) (by kernel_rfl) (by decide) (AllT.consF rfl rfl (fun K hK=>?_) AllT.nil);go_simp;refine HCR.out.mono ?_;rintro e w3 ⟨rfl,φ1,gn1,hst1,hb1⟩;(refine hK.out _ _ ?_;clear hK K);refine ze (rs:=[7]) (by kernel_rfl) (by decide) (AllT.consF rfl rfl (fun K hK=>?_) AllT.nil);go_simp;(refine hK.out _ _ ?_;clear hK K);refine zn (by kernel_rfl) (NoPanic.normal ?_) _;have HST1:=hid hst1;have HB1:=hid hb1;have hx3:OwnS rI 3 w3 W.heap.size (fun _=>False) (.slice a1 0 c1) []:=(HO5.out.ext hxd).kept (hst1.keep.mono fun j hj _=>by
       rcases hj with hj|hj
       ·exact hj.elim
       ·exact HLATE.out j (HO5.out.lt j hj).1)
      have HX3:=hid (hx3.ext ((Ext.refl w3).alloc (.cells #[.int .i64 0] 3)));have HWZ:=hid hst1.keep.size;clear hst1 hb1 hx3 e0;go_upto_region 24 with (at_builtin;refine vw rI rfl _ _ _ _ _ (.int .i64 0) 8 rfl Tryz.underlying23 zht rfl W.heap.size (fun _=>False) (.slice a1 0 c1) [] rfl HX3.out _ [([.int .i64 0],0)] rfl (zpn _ _) ?_ ?_ ?_ ?_ ?_ ?_;rotate_left 5;intro v6 w6 k1 k2 k3;have HV6:=hid k1;have HG6:=hid k2;have HW6:=hid k3;obtain⟨a6,c6,rfl⟩:=k1.slice;clear k1 k2 k3)
      case refine_1=>exact⟨rfl,by omega⟩
      case refine_5=>
       have h1:=HWZ.out;have h2:=HX1R.out.size;have h3:=HXD.out.size;(try simp only[World.size_alloc]);omega
      have HSTX:=hid (FStep.xt HXD.out HST1.out);have HBZ:=hid (show FsB w w3 g ρ N d gl n C (fun s=>FsHome s o) φ1 gf ⟨some b.length,nbN b.length,lst,nbN b.length,dir⟩ gc ga gm gt gn1 none lv by
       have h:=HB1.out;rw[show some b.length=some 0 by rw[HBL.out]];exact h)
      have HFR:=hid (show ∀ j,(Value.slice a1 0 c1).ownBlock=some j->¬ FsT ρ gl φ1 j from fun j hj=>HSTX.out.free (HLATE.out j (HO5.out.lt j hj).1) (HO5.out.lt j hj).2);have HV7:=hid (show OwnS rI 3 w6 W.heap.size (fun _=>False) (.slice a6 1 c6) [(b.length:Int)] by
       have h:=HV6.out;rw[HBL.out];exact h)
      simp only[List.nil_append,List.map_cons,List.map_nil,List.length_singleton]at HW6 ⊢;obtain⟨wc,hwc⟩ : ∃ wc,wc=w6:=⟨_,rfl⟩
      obtain⟨g5,o5,cap5,cs5,e5,-,-,-,-,-⟩:=HV7.out.rdT.at 0 (by simp);simp only[Value.slice.injEq,List.length_singleton,true_and]at e5;obtain⟨rfl,rfl⟩:=e5;have hcut : ∃ φ1 gn1 qn1,FNew φ φ1 wq/\Keep (fun j=>¬ FsT ρ gl φ j/\uq.ownBlock≠some j) wq wc/\FsB w wc g ρ N d gl n C (fun s=>FsHome s o) φ1 gf ⟨some b.length,nbN b.length,lst,nbN b.length,dir⟩ gc ga gm gt gn1 qn1 lv/\
        OwnS rI 3 wc W.heap.size (fun _=>False) (.slice (some ⟨g5,o5,none⟩) 1 c6) [(b.length:Int)]/\∀ j,(Value.slice (some ⟨g5,o5,none⟩) 1 c6).ownBlock=some j->¬ FsT ρ gl φ1 j/\(uq.ownBlock=some j\/wq.heap.size<=j):=by
       rw[hwc,HWQ.out];refine⟨φ1,gn1,none,HSTX.out.new,((HSTX.out.keep.mono fun j hj _=>hj.1).trans (((Ext.refl w3).alloc _).keep _)).trans ((zl HG6.out).mono fun j hj _ e=>?_),(HBZ.out.ext ((Ext.refl w3).alloc _)).keep ((zl HG6.out).mono fun j hj _ e=>?_),HV7.out,fun j hj=>?_⟩
       ·refine hj.2 ?_;rw[HUQ.out,HZ0.out];exact e.symm
       ·have e:=e.symm;have h1:=HO5.out.lt j e;have h2:=HBF.out.put.hm.ex.size;rcases hj with hj|hj
        ·exact HFR.out j e hj
        ·omega
       ·have h1:=HWZ.out;have h3:=HXD.out.size;rcases HW6.out j hj with h|h
        ·refine⟨HFR.out j h,.inl ?_⟩;rw[HUQ.out,HZ0.out];exact h
        ·rw[World.size_alloc]at h;exact⟨HBZ.out.at.late (by omega),.inr (by omega)⟩
      rw[<-hwc];clear hwc HWZ HSTX HBZ HFR HV7 HV6 HG6 HW6 HB1 HST1 HX3 HO5 HCR HXD HBL hxd hn1 hS
     case' inr=>
      have hzs:zs=[(b.length:Int)]:=by rw[HZS.out,HOB.out,ho];rfl
      have ho2:=HO2.out;rw[hzs,List.length_singleton]at ho2;rw[hzs,List.length_singleton];obtain⟨g5,o5,cap5,cs5,e5,hg5,-,-,hc5,hr5⟩:=ho2.rdT.at 0 (by simp);simp only[Value.slice.injEq,List.length_singleton,true_and]at e5;obtain⟨rfl,rfl⟩:=e5;obtain⟨rfl,-⟩:=hr5;have d5:=hc5 0 _ rfl;simp only[Nat.zero_mul,Nat.add_zero,List.getElem_cons_zero]at d5;have HO5:=hid ho2;have HZ1:=hid hzs;have HZL:=hid (show zs.length=1 by rw[hzs];rfl);have HOM:=hid (show some b.length=o.map List.length by rw[HOB.out,ho];rfl);have hln:=HLN.out;have hw8:IntKind.i64.wrap ((b.length:Int)+(F.length:Int))=((b.length+F.length:Nat):Int):=by rw[IntKind.wrap_i64] <;> omega
      have ht8 : ¬ (8192:Int)<((b.length+F.length:Nat):Int):=by omega
      have ht9 : ¬ (8192:Int)<(b.length:Int)+(F.length:Int):=by omega
      clear hzs ho2 hc5 ho;go_upto_region 24 with fail;obtain⟨wc,hwc⟩ : ∃ wc,wc=wr:=⟨_,rfl⟩
      have hcut : ∃ φ1 gn1 qn1,FNew φ φ1 wq/\Keep (fun j=>¬ FsT ρ gl φ j/\uq.ownBlock≠some j) wq wc/\FsB w wc g ρ N d gl n C (fun s=>FsHome s o) φ1 gf ⟨some b.length,nbN b.length,lst,nbN b.length,dir⟩ gc ga gm gt gn1 qn1 lv/\
        OwnS rI 3 wc W.heap.size (fun _=>False) (.slice (some ⟨g5,o5,none⟩) 1 c1) [(b.length:Int)]/\∀ j,(Value.slice (some ⟨g5,o5,none⟩) 1 c1).ownBlock=some j->¬ FsT ρ gl φ1 j/\(uq.ownBlock=some j\/wq.heap.size<=j):=by
       have hb2:=HB2.out;rw[<-HOM.out]at hb2;rw[hwc,HWQ.out];exact⟨φ,gn,qn,FNew.refl _ _,Keep.refl _ _,hb2,HO5.out,fun j hj=>⟨HLATE.out j (HO5.out.lt j hj).1,.inl (by rw[HUQ.out,HZ1.out];exact hj)⟩⟩
      rw[<-hwc];clear hwc d5 hw8 ht8 ht9 hln HO5 HZ1 HOM
     all_goals
      obtain⟨φ1,gn1,qn1,hn1,hk1,hb1,ho5,hu5⟩:=hcut;have HN1:=hid hn1;have HK1:=hid hk1;have HB1:=hid hb1;have HO5:=hid ho5;have HU5:=hid hu5;have HSZ1:=hid hk1.size;clear hn1 hk1 hb1 ho5 hu5;have hgsW:=(blt HSP.out.head)
      have HGSW:=hid hgsW;have e0:wc.cell? ⟨gs,0,none⟩=some (.pointer (some ⟨gf,0,none⟩)):=(World.cell?_of_block (HK1.out.block gs ⟨(HSS.out gs (.inl rfl)).1,fun e=>by
       have h1:=(HUB.out gs e).1;omega⟩ (by rw[HWQ.out];exact(blt HSP2.out.head)))).trans (by rw[HWQ.out];exact(cr 0 HSP2.out.head))
      clear hgsW;have hxd:Ext wc wc.drew:=(Ext.refl _).drew;have HXD:=hid hxd;have hUC:RdB wc (.slice a8 F.length c8) F:=Rd.carry0 HU7.out (by have:=HSZ1.out;rw[HWQ.out]at this;exact this) fun _ j hj hl=>by
       have h1:=HB8.out j hj;have h2:=HK1.out.block j ⟨HLATE.out j (by have:=HX1.out.size;omega),fun e=>by
        have:=(HUB.out j e).2;omega⟩ (by rw[HWQ.out];omega)
       rw[HWQ.out]at h2;exact h2
      have HUD:=hid (hUC.ext hxd);clear hUC;have hW1:=HX1.out.size;have hW2:=HX1R.out.size;have hWQ:wq.heap.size=wr.heap.size:=by rw[HWQ.out]
      have HWS:=hid (show W.heap.size<=w1.heap.size/\w1.heap.size<=wr.heap.size/\wq.heap.size=wr.heap.size/\W.heap.size<=wr.heap.size from⟨hW1,HXR.out.size,hWQ,hW2⟩);clear hW1 hW2 hWQ;have HFR:=hid (show ∀ j,W.heap.size<=j->j<wr.heap.size->¬ FsT ρ gl φ1 j from fun j h1 h2 h3=>by
       rcases h3 with h3|h3|h3
       ·exact HLATE.out j h1 (.inl h3)
       ·exact HLATE.out j h1 (.inr (.inl h3))
       ·rcases HN1.out j h3 with h4|h4
        ·exact HLATE.out j h1 (.inr (.inr h4))
        ·have:=HWS.out;omega)
      have HVB:=hid (show ∀ j,(Value.slice a8 F.length c8).ownBlock=some j->¬ FsT ρ gl φ1 j/\j<wc.drew.heap.size from fun j hj=>by
       have h1:=HB8.out j hj;have h2:=HWS.out;have h3:=HSZ1.out;have h4:=HXD.out.size;exact⟨HFR.out j (by omega) h1.2,by omega⟩)
      refine zr (fun w'=>w'.cell? ⟨gs,0,none⟩=some (.pointer (some ⟨gf,0,none⟩))) [7,8] (by kernel_rfl) (Ext.cellS hxd e0) (fun hS=>?_);(refine za 0 rfl ?_;(try simp only[Act.put,tq0,tq1,tq2,tq3,tq4,tq5]));(refine za 1 rfl ?_;(try simp only[Act.put,tq0,tq1,tq2,tq3,tq4,tq5]));(refine za 2 rfl ?_;(try simp only[Act.put,tq0,tq1,tq2,tq3,tq4,tq5]));(refine za 3 rfl ?_;(try simp only[Act.put,tq0,tq1,tq2,tq3,tq4,tq5]));(refine za 4 rfl ?_;(try simp only[Act.put,tq0,tq1,tq2,tq3,tq4,tq5]));(refine za 6 rfl ?_;(try simp only[Act.put,tq0,tq1,tq2,tq3,tq4,tq5]));refine ze (rs:=[5]) (by kernel_rfl) (by decide) (AllT.consS rfl (fun K hK=>?_) AllT.nil);go_simp;refine(zdn wc.drew).mono ?_;rintro e wn ⟨rfl,rfl⟩;(refine hK.out _ _ (Ext.cellS HXD.out e0) (fun hS=>?_);clear hK K);refine ze (rs:=[7]) (by kernel_rfl) (by decide) (AllT.consF rfl rfl (fun K hK=>?_) AllT.nil);go_simp;refine(zwm b F lst dir (HB1.out.ext HXD.out) (by omega) hls HLN.out HCC.out (fun i X s s' _ hp he hx hpr=>hp.put i X he hx fun b' e hi=>by
       rcases HNS.out with h0|⟨b0,h0⟩
       ·rw[h0]at e;cases e
       ·have h1:=HOB.out;rw[h0]at h1 e;cases e;obtain rfl:b=b':=h1;exact hpr) a8 c8 HUD.out HVB.out).mono ?_
      rintro e w3 ⟨ρ3,d3,φ3,hst3,⟨rfl,hfu3,qn3,C3,hb3,hC3,hdir3⟩|⟨rfl,hnf3,hdn3⟩⟩
      ·have HST3:=hid hst3;have HFU3:=hid hfu3;have HB3:=hid hb3;have HC3:=hid hC3;have HDIR3:=hid hdir3;clear hst3 hfu3 hb3 hC3 hdir3;(refine hK.out _ _ ?_;clear hK K);refine ze (rs:=[8]) (by kernel_rfl) (by decide) (AllT.consF rfl rfl (fun K hK=>?_) AllT.nil);go_simp;(refine hK.out _ _ ?_;clear hK K);refine zn (by kernel_rfl) (NoPanic.normal ?_) _;have ho3:=(HO5.out.ext HXD.out).kept (HST3.out.keep.mono fun j hj _=>by
        rcases hj with hj|hj
        ·exact hj.elim
        ·exact(HU5.out j hj).1)
       obtain⟨g9,c9,cu9,e9,hb9,hg9,hr9⟩:=ho3.head1 (by simp);simp only[Value.slice.injEq,Option.some.injEq,Addr.mk.injEq]at e9;obtain⟨⟨rfl,rfl,-⟩,-,-⟩:=e9;have f9:=zg hr9 0;obtain⟨gx,ox,cx,csx,ex,-,-,-,hcx,hrx⟩:=ho3.rdT.at 0 (by simp);simp only[Value.slice.injEq,Option.some.injEq,Addr.mk.injEq]at ex;obtain⟨⟨rfl,rfl,-⟩,-,-⟩:=ex;obtain⟨rfl,-⟩:=hrx;have d9:=hcx 0 _ rfl;simp only[Nat.zero_mul,Nat.add_zero,List.getElem_cons_zero]at d9;have HO9:=hid ho3;have hln:=HLN.out;have hw8:IntKind.i64.wrap ((b.length:Int)+(F.length:Int))=((b.length+F.length:Nat):Int):=by rw[IntKind.wrap_i64] <;> omega
       clear ho3 hb9 hg9 hr9 hcx d7 e0 hS hxd;go_wp2_with fail;have h5u:=HU5.out g5 rfl;have h5l:=HO5.out.lt g5 rfl;have h3z:=HST3.out.keep.size;have hxz:=HXD.out.size;have hwz:=HWS.out;have h1z:=HSZ1.out;have hnf : ¬ FsT ρ3 gl φ3 g5:=HST3.out.free h5u.1 (by omega);have hk5:Keep (fun j=>j≠g5) w3 (w3.setCell ⟨g5,0,none⟩ (.int .i64 ((b.length+F.length:Nat):Int))):=(Keep.refl _ _).setCell (by simp) _;have hgw:w.heap.size<=g5:=by
        have h2:=HBF.out.put.hm.ex.size;omega
       have hb5:=HB3.out.keep (hk5.mono fun j hj _ e=>by
        subst e;rcases hj with hj|hj
        ·exact hnf hj
        ·omega)
       have ho5:=HO9.out.set1 rfl 0 (by simp) (.int .i64 ((b.length+F.length:Nat):Int)) ((b.length+F.length:Nat):Int) ⟨rfl,by omega,by omega⟩;have hkq:Keep (fun j=>¬ FsT ρ gl φ j/\uq.ownBlock≠some j) wq (w3.setCell ⟨g5,0,none⟩ (.int .i64 ((b.length+F.length:Nat):Int))):=by
        have k1:Keep (fun j=>(¬ FsT ρ gl φ j/\uq.ownBlock≠some j)/\j<wq.heap.size) wq wc:=HK1.out.mono fun j hj _=>hj.1;have k2:=k1.trans (HXD.out.keep _);have k3:=k2.trans (HST3.out.keep.mono fun j hj _ h3=>by
         rcases h3 with h3|h3|h3
         ·exact hj.1.1 (.inl h3)
         ·exact hj.1.1 (.inr (.inl h3))
         ·rcases HN1.out j h3 with h4|h4
          ·exact hj.1.1 (.inr (.inr h4))
          ·omega)
        have k4:=k3.trans (hk5.mono fun j hj _ e=>by
         subst e;rcases h5u.2 with h|h
         ·exact hj.1.2 h
         ·omega)
        exact k4.mono fun j hj hl=>⟨hj,hl⟩
       go_roundw;case measure=>simp[intOf]
       case rel=>
        refine .inr ⟨rfl,_,_,rfl,ρ3,d3,φ3,gn1,qn3,C3,fun j hj=>?_,fun j hj=>?_,hkq,HFU3.out,hb5,HC3.out,HDIR3.out,ho5,fun j hj=>?_⟩
        ·rcases HST3.out.rol j hj with h|h
         ·exact .inl h
         ·exact .inr (by omega)
        ·rcases HST3.out.new j hj with h|h
         ·exact HN1.out j h
         ·exact .inr (by omega)
        ·have e:g5=j:=by simpa[Value.ownBlock] using hj
         subst e;exact⟨hnf,h5u.2⟩
      ·have HST3:=hid hst3;have HDN3:=hid hdn3;clear hst3 hdn3;(refine hK.out _ _ ?_;clear hK K);refine ze (rs:=[8]) (by kernel_rfl) (by decide) (AllT.consF rfl rfl (fun K hK=>?_) AllT.nil);go_simp;(refine hK.out _ _ ?_;clear hK K);refine zn (by kernel_rfl) (NoPanic.normal ?_) _;have g0:w3.cell? ⟨gs,0,none⟩=some (.pointer (some ⟨gf,0,none⟩)):=(World.cell?_of_block (HST3.out.keep.block gs (fun h3=>by
        have hn:=(HSS.out gs (.inl rfl)).1;rcases h3 with h3|h3|h3
        ·exact hn (.inl h3)
        ·exact hn (.inr (.inl h3))
        ·rcases HN1.out gs h3 with h4|h4
         ·exact hn (.inr (.inr h4))
         ·have:=HGSW.out;have:=HWS.out;omega) (by
        have h1:=HGSW.out;have h2:=HXD.out.size;have h3:=HWS.out;have h4:=HSZ1.out;omega))).trans (Ext.cellS HXD.out e0)
       clear e0 hS hxd d7;go_wp2_with fail;refine(zjz w3 _).mono ?_;rintro e w4 ⟨rfl,rfl⟩;go_wp2_with fail;go_ret;have hwz:=HWS.out;have h1z:=HSZ1.out;have hxz:=HXD.out.size;have hkk:Keep (fun j=>¬ FsT ρ gl φ j/\¬ SegS Sd gs fv (.slice az zs.length cz) j) W w3:=by
        have k1:Keep (fun j=>¬ FsT ρ gl φ j/\j<W.heap.size) W wq:=by rw[HWQ.out];exact HX1R.out.keep _
        have k2:=k1.trans (HK1.out.mono fun j hj _=>⟨hj.1,fun e=>by have:=(HUB.out j e).1;omega⟩);have k3:=(k2.trans (HXD.out.keep _)).trans (HST3.out.keep.mono fun j hj _ h3=>by
         rcases h3 with h3|h3|h3
         ·exact hj.1 (.inl h3)
         ·exact hj.1 (.inr (.inl h3))
         ·rcases HN1.out j h3 with h4|h4
          ·exact hj.1 (.inr (.inr h4))
          ·omega)
        exact k3.mono fun j hj hl=>⟨hj.1,hl⟩
       rw[HZL.out]at hkk;refine⟨ρ3,d3,φ3,fun j hj=>?_,fun j hj=>?_,hkk,.inr ⟨rfl,hnf3,{ HDN3.out with hm:=HDN3.out.hm.mono (by omega),img:=fun s hs=>.inl ?_ }⟩⟩
       ·rcases HST3.out.rol j hj with h|h
        ·exact .inl h
        ·exact .inr (by omega)
       ·rcases HST3.out.new j hj with h|h
        ·rcases HN1.out j h with h|h
         ·exact .inl h
         ·exact .inr (by omega)
        ·exact .inr (by omega)
       ·obtain⟨h1,h2⟩:=HDN3.out.img s hs;exact FsImg.done h1 h2 (Nat.le_refl _)
    ·have HRL3:=hid hrl3;have HNW3:=hid hnw3;have HK3:=hid hk3;have HFU3:=hid hfu3;have HB3:=hid hb3;have HC3:=hid hC3;have HDIR3:=hid hdir3;have HO3:=hid ho3;have HU3:=hid hu3;have HX1Q:=hid (show Ext W wq by rw[HWQ.out];exact HX1R.out);have hgsW:=(blt HSP.out.head)
     have HWS:=hid (show W.heap.size<=w1.heap.size/\w1.heap.size<=wq.heap.size/\wq.heap.size<=wr.heap.size/\gs<W.heap.size/\w.heap.size<=W.heap.size from⟨HX1.out.size,by rw[HWQ.out];exact HXR.out.size,hk3.size,hgsW,HBF.out.put.hm.ex.size⟩);have HF3:=hid (show ∀ j,¬ FsT ρ gl φ j->j<wq.heap.size->¬ FsT ρ3 gl φ3 j from fun j h1 h2 h3=>by
      rcases h3 with h3|h3|h3
      ·rcases hrl3 j h3 with h|h
       ·exact h1 (.inl h)
       ·omega
      ·exact h1 (.inr (.inl h3))
      ·rcases hnw3 j h3 with h|h
       ·exact h1 (.inr (.inr h))
       ·omega)
     have g0:wr.cell? ⟨gs,0,none⟩=some (.pointer (some ⟨gf,0,none⟩)):=(World.cell?_of_block (hk3.block gs ⟨(HSS.out gs (.inl rfl)).1,fun e=>by
      have h1:=(HUB.out gs e).1;omega⟩ (by have:=HWS.out;omega))).trans ((World.cell?_of_block (HX1Q.out.block gs hgsW)).trans ((cr 0 HSP.out.head)))
     have hln:=HLN.out;have h16:=zah hln;have hcm:FsHome (ya 0 (ye (dirB dir) (dirB (some (b.length+F.length))) 16) 0 C3) (some (b++F)):=by
      rw[<-List.length_append];exact FsHome.commit (fun j hj=>(HDIR3.out _ (by omega)).trans (HDD.out j hj)) (by rw[List.length_append];exact hln) (fun i hi=>by rw[List.length_append]at hi ⊢;exact(HC3.out i hi).1)
     have h512 : ∀ i:Nat,i<nbN (b.length+F.length)->(ya 0 (ye (dirB dir) (dirB (some (b.length+F.length))) 16) 0 C3 (36+(i:Int))).length=512:=fun i hi=>by
      rw[(bg (dirB dir) (dirB (some (b.length+F.length))) C3 (fun j hj=>(HDIR3.out _ (by omega)).trans (HDD.out j hj)) 16 (Nat.le_refl _)).2 _ fun n hn=>by omega];exact(HC3.out i hi).2
     have HCM:=hid hcm;have H512:=hid h512;clear hrl3 hnw3 hk3 hfu3 hb3 hC3 hdir3 ho3 hu3 hgsW hcm h512;go_wp2_with fail;refine(zx7 HB3.out (by omega) hn (fun s e=>by cases e;exact hln) (fun s s' hp he=>hp.cur he) (fun i hi=>(HDIR3.out _ (by omega)).trans (HDD.out i hi)) h16).mono ?_;rintro e w4 ⟨ρ4,d4,φ4,hst4,h4⟩;have HST4:=hid hst4;have hkq:Keep (fun j=>¬ FsT ρ gl φ j/\uq.ownBlock≠some j/\j<wq.heap.size) wq w4:=(HK3.out.mono fun j hj _=>⟨hj.1,hj.2.1⟩).trans (hst4.keep.mono fun j hj _=>HF3.out j hj.1 hj.2.2);have HKQ:=hid hkq;have hkW:Keep (fun j=>¬ FsT ρ gl φ j/\j<W.heap.size) W w4:=(HX1Q.out.keep _).trans (hkq.mono fun j hj _=>⟨hj.1,fun e=>by have:=(HUB.out j e).1;omega,by have:=HWS.out;omega⟩);have HKW:=hid hkW;have HSZ4:=hid hst4.keep.size;have HRO:=hid (show RolNew ρ ρ4 W from fun j hj=>by
      rcases HST4.out.rol j hj with h|h
      ·rcases HRL3.out j h with h|h
       ·exact .inl h
       ·exact .inr (by have:=HWS.out;omega)
      ·exact .inr (by have:=HWS.out;omega))
     have HFN:=hid (show FNew φ φ4 W from fun j hj=>by
      rcases HST4.out.new j hj with h|h
      ·rcases HNW3.out j h with h|h
       ·exact .inl h
       ·exact .inr (by have:=HWS.out;omega)
      ·exact .inr (by have:=HWS.out;omega))
     have HF4:=hid (show ∀ j,¬ FsT ρ gl φ j->j<wq.heap.size->¬ FsT ρ4 gl φ4 j from fun j h1 h2=>HST4.out.free (HF3.out j h1 h2) (by have:=HWS.out;omega));clear hst4 hkq hkW;rcases h4 with⟨rfl,hfu4,hla4,⟨gt4,lv4,hf4⟩,hd4⟩|⟨rfl,hnf4,hdn4⟩
     ·have hrow4:=(HKW.out.block gs ⟨(HSS.out gs (.inl rfl)).1,HWS.out.2.2.2.1⟩ HWS.out.2.2.2.1).trans HSP.out.head;obtain⟨af,cf,rfl⟩:=HSP.out.frames.slice;have c0:w4.cell? ⟨gs,0,none⟩=some (.pointer (some ⟨gf,0,none⟩)):=(cr 0 hrow4)
      have c1:w4.cell? ⟨gs,1,none⟩=some (.slice af fs.length cf):=(cr 1 hrow4)
      have HROW:=hid hrow4;have HFU4:=hid hfu4;have HLA4:=hid hla4;have HF4P:=hid hf4;have HD4:=hid hd4;obtain⟨S',hS'⟩ : ∃ S':Nat->Prop,S'=fun j=>(Sd j/\j<W.heap.size)\/(w1.heap.size<=j/\j<wq.heap.size):=⟨_,rfl⟩
      have HFB:=hid (show ∀ j,(Value.slice af fs.length cf).ownBlock=some j->j<W.heap.size/\j≠gs/\¬ FsT ρ gl φ j/\w.heap.size<=j from fun j hj=>⟨(HSP.out.frames.lt j hj).2,HSP.out.ne j (.inl hj),HSS.out j (.inr (.inl hj))⟩);have happ:OwnS rSf 80 w4 0 S' (.slice af fs.length cf) fs:=by
       have hno : ∀ k,(Value.slice af fs.length cf).ownBlock=some k->¬ Sd k:=by
        obtain⟨_,_,_,h2,_⟩:=HSP.out.frames;exact h2
       refine((HSP.out.frames.widen (S':=fun j=>Sd j/\j<W.heap.size) (fun j hj hl=>⟨hj,hl⟩) fun j hj h=>hno j hj h.1).kept (HKW.out.mono fun j hj hl=>⟨?_,hl⟩)).widen (fun j hj hl=>?_) fun j hj h=>?_
       ·rcases hj with hj|hj
        ·exact(HSS.out j (.inr (.inr (.inr hj.1)))).1
        ·exact(HSS.out j (.inr (.inl hj))).1
       ·rw[hS'];exact .inl hj
       ·rw[hS']at h;rcases h with h|h
        ·exact hno j hj h.1
        ·have:=(HFB.out j hj).1;have:=HWS.out;omega
      have hy:RdS rSf w4 S' (.slice a6 1 c6) [(kd,data)]:=by
       have h1:=H6.out.rdS;rw[<-HWQ.out]at h1;refine(RdS.mono h1 (S':=fun j=>w1.heap.size<=j/\j<wq.heap.size) fun j hj hl=>⟨hj,hl⟩).kept (HKQ.out.mono fun j hj _=>⟨HLATE.out j (by have:=HWS.out;omega),fun e=>by have:=(HUB.out j e).2;omega,hj.2⟩) |>.mono fun j hj _=>?_;rw[hS'];exact .inr hj
      have HAPP:=hid happ;have HY:=hid hy;have HS':=hid (show ∀ k,S' k->k<w4.heap.size from fun k hk=>by
       rw[hS']at hk;have:=HWS.out;have:=HSZ4.out;rcases hk with hk|hk <;> omega)
      have HSE:=hid hS';clear hrow4 hfu4 hla4 hf4 hd4 happ hy hS' g0;go_wp2_with (at_builtin;refine zrw rfl _ _ rfl 0 S' _ fs rfl HAPP.out _ [(kd,data)] rfl HY.out HS'.out (by have:=HFSL.out;simp only[List.length_singleton];omega) (Nat.zero_le _) ?_;intro v9 w9 k1 k2 k3;have HV9:=hid k1;have HG9:=hid k2;have HB9:=hid k3;have hrow9:w9.heap[gs]? = _:=(HG9.out.block gs (blt HROW.out) (fun e=>(HFB.out gs e.symm).2.1 rfl)).trans HROW.out;have f1:=zg hrow9 1;have f2:=zg hrow9 2;have d1:w9.cell? ⟨gs,1,none⟩=some (.slice af fs.length cf):=(cr 1 hrow9);have d2:w9.cell? ⟨gs,2,none⟩=some (.slice az zs.length cz):=(cr 2 hrow9);have HR9:=hid hrow9;obtain⟨a9,c9,rfl⟩:=k1.slice;clear k1 k2 k3 hrow9)
      go_ret;have hh7:=zw (o:=2) (zw (o:=1) HR9.out (.slice a9 (fs++[(kd,data)]).length c9)) (.slice a5 1 c5);have hk7:Keep (fun j=>j≠gs) w9 ((w9.setCell ⟨gs,1,none⟩ (.slice a9 (fs++[(kd,data)]).length c9)).setCell ⟨gs,2,none⟩ (.slice a5 1 c5)):=((Keep.refl _ _).setCell (by simp) _).setCell (by simp) _;simp only[List.length_append,List.length_singleton]at hh7 hk7;generalize ((w9.setCell ⟨gs,1,none⟩ (.slice a9 (fs.length+1) c9)).setCell ⟨gs,2,none⟩ (.slice a5 1 c5))=w7 at hh7 hk7 ⊢;rw[<-HF.out];have hws:=HWS.out;have hz4:=HSZ4.out;have hz9:=HG9.out.size;have hz7:=hk7.size;have hnf4 : ∀ j,((Value.slice af fs.length cf).ownBlock=some j\/j=gs)->¬ FsT ρ4 gl φ4 j/\w.heap.size<=j/\j<W.heap.size:=fun j hj=>by
       rcases hj with hj|rfl
       ·have h1:=HFB.out j hj;exact⟨HF4.out j h1.2.2.1 (by omega),h1.2.2.2,h1.1⟩
       ·have h1:=HSS.out j (.inl rfl);exact⟨HF4.out j h1.1 (by omega),h1.2,by omega⟩
      have hlate4 : ∀ j,w4.heap.size<=j->¬ FsT ρ4 gl φ4 j:=fun j hj h=>by
       rcases h with h|h|h
       ·exact h (HLA4.out.hm.late (Ext.refl _) hj)
       ·have:=HLA4.out.log.lt;omega
       ·have:=HF4P.out.lt j h;omega
      have hk47:Keep (fun j=>(Value.slice af fs.length cf).ownBlock≠some j/\j≠gs) w4 w7:=((zl HG9.out).mono fun j hj _ e=>hj.1 e.symm).trans (hk7.mono fun j hj _=>hj.2);have hla7:LogAt w w7 g ρ4 (N+21000) d4 gl 64 (n+1) (ya 0 (ye (dirB dir) (dirB (some (b.length+F.length))) 16) 0 C3):=by
       have h:=HLA4.out.keepT (hk47.mono fun j hj _=>?_)
       ·exact { h with hm:=h.hm.mono (by omega) }
       ·refine⟨fun e=>?_,fun e=>?_⟩
        ·have h1:=hnf4 j (.inl e);rcases hj with (hj|hj)|hj
         ·exact h1.1 (.inl hj)
         ·omega
         ·exact h1.1 (.inr (.inl hj))
        ·have h1:=hnf4 j (.inr e);rcases hj with (hj|hj)|hj
         ·exact h1.1 (.inl hj)
         ·omega
         ·exact h1.1 (.inr (.inl hj))
      have hf7:=HF4P.out.keep (hk47.mono fun j hj _=>⟨fun e=>(hnf4 j (.inl e)).1 (.inr (.inr hj)),fun e=>(hnf4 j (.inr e)).1 (.inr (.inr hj))⟩);have hub:=HUB.out;have hu3:=HU3.out;have hB9 : ∀ j,(Value.slice a9 (fs.length+1) c9).ownBlock=some j->(Value.slice af fs.length cf).ownBlock=some j\/w4.heap.size<=j:=fun j hj=>HB9.out j (by simpa[Value.ownBlock] using hj);have h5l : ∀ j,(Value.slice a5 1 c5).ownBlock=some j->W.heap.size<=j/\j<wr.heap.size:=fun j hj=>HO3.out.lt j hj;have hsp7:SegP w7 S' gs gf (.slice a9 (fs.length+1) c9) (.slice a5 1 c5) (fs++[(kd,data)]) [((b++F).length:Int)]:=by
       refine⟨hh7,?_,?_,fun k hk=>?_,fun k hk=>?_⟩
       ·have h:=HV9.out;simp only[List.length_append,List.length_singleton]at h;refine h.kept (hk7.mono fun j hj _ e=>?_);subst e;rcases hj with hj|hj
        ·rw[HSE.out]at hj;rcases hj with hj|hj
         ·exact HSP.out.ne j (.inr (.inr hj.1)) rfl
         ·omega
        ·rcases hB9 j hj with hj|hj
         ·exact HSP.out.ne j (.inl hj) rfl
         ·omega
       ·rw[List.length_append];refine((HO3.out.kept (HST4.out.keep.mono fun j hj _=>?_)).kept (hk47.mono fun j hj _=>?_)).low (Nat.zero_le _)
        ·rcases hj with hj|hj
         ·exact hj.elim
         ·exact(hu3 j hj).1
        ·rcases hj with hj|hj
         ·exact hj.elim
         ·have h1:=h5l j hj;exact⟨fun e=>by have:=(HFB.out j e).1;omega,by omega⟩
       ·rcases hk with hk|hk|hk
        ·rcases hB9 k hk with hk|hk
         ·exact HSP.out.ne k (.inl hk)
         ·omega
        ·have:=h5l k hk;omega
        ·rw[HSE.out]at hk;rcases hk with hk|hk
         ·exact HSP.out.ne k (.inr (.inr hk.1))
         ·omega
       ·have h1:=h5l k hk;refine⟨fun e=>?_,fun e=>?_⟩
        ·rcases hB9 k e with e|e
         ·have:=(HFB.out k e).1;omega
         ·omega
        ·rw[HSE.out]at e;rcases e with e|e
         ·omega
         ·rcases (hu3 k hk).2 with h|h
          ·have:=hub k h;omega
          ·omega
      have hlb:(b++F).length=b.length+F.length:=List.length_append;refine⟨ρ4,d4,φ4,HRO.out,HFN.out,(HKW.out.mono fun j hj hl=>⟨hj.1,hl⟩).trans (hk47.mono fun j hj _=>⟨fun e=>hj.2 (.inr (.inl e)),fun e=>hj.2 (.inl e)⟩),.inl ⟨rfl,fun e=>HFU4.out (HFU3.out e),_,gt4,gn3,qn3,lv4,_,_,S',hla7,?_,HCM.out,?_,hsp7,HD4.out,fun j hj=>?_⟩⟩
      ·rw[hlb];exact hf7
      ·rw[hlb];exact H512.out
      ·rcases hj with hj|hj|hj|hj
       ·have h1:=hnf4 j (.inr hj);exact⟨h1.1,h1.2.1,.inl (.inl hj)⟩
       ·rcases hB9 j hj with hj|hj
        ·have h1:=hnf4 j (.inl hj);exact⟨h1.1,h1.2.1,.inl (.inr (.inl hj))⟩
        ·exact⟨hlate4 j hj,by omega,.inr (by omega)⟩
       ·have h1:=h5l j hj;exact⟨HST4.out.free (hu3 j hj).1 h1.2,by omega,.inr h1.1⟩
       ·rw[HSE.out]at hj;rcases hj with hj|hj
        ·have h1:=HSS.out j (.inr (.inr (.inr hj.1)));exact⟨HF4.out j h1.1 (by omega),h1.2,.inl (.inr (.inr (.inr hj.1)))⟩
        ·exact⟨HF4.out j (HLATE.out j (by omega)) hj.2,by omega,.inr (by omega)⟩
     ·have HDN4:=hid hdn4;have g4:w4.cell? ⟨gs,0,none⟩=some (.pointer (some ⟨gf,0,none⟩)):=(World.cell?_of_block (HKW.out.block gs ⟨(HSS.out gs (.inl rfl)).1,HWS.out.2.2.2.1⟩ HWS.out.2.2.2.1)).trans ((cr 0 HSP.out.head));clear hdn4 g0;go_wp2_with fail;refine(zjz w4 _).mono ?_;rintro e w5 ⟨rfl,rfl⟩;go_wp2_with fail;go_ret;rw[<-HF.out];refine⟨ρ4,d4,φ4,HRO.out,HFN.out,HKW.out.mono fun j hj hl=>⟨hj.1,hl⟩,.inr ⟨rfl,fun e=>hnf4 (HFU3.out e),{ HDN4.out with hm:=HDN4.out.hm.mono (by omega),img:=fun s hs=>?_ }⟩⟩;rcases HDN4.out.img s hs with⟨h1,h2⟩|h1|h1
      ·exact .inl (FsImg.done h1 h2 (Nat.le_refl _))
      ·exact .inr (FsImg.wait h1 (zcz _ _ (vk _)) HCM.out (Nat.le_succ n))
      ·exact .inr (FsImg.done h1 HCM.out (Nat.le_refl _))
end
end
end Go.Proofs.YtnadlnmclameiaaGreatDoor
