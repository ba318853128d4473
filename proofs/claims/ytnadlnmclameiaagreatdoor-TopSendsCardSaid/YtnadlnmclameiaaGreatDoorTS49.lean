/- part 49 -/
import Derived.Test.YtnadlnmclameiaaGreatDoorTS48
set_option maxRecDepth 100000
set_option maxHeartbeats 8000000
set_option linter.all false
namespace Go.Proofs.YtnadlnmclameiaaGreatDoor
section
open Go.RowKit Go.Maps
abbrev Adg:=ByteArray × (ByteArray × List Ev)
def rAd:Rdr Adg:=ke rS (ke rS (rSl rE))
theorem RdS.atAd {w:World}{S:Nat->Prop}{v:Value}{xs:List Adg} (h:RdS rAd w S v xs) (i:Nat) (hi:i<xs.length) :
  ∃ g o cap lv,v = .slice (some ⟨g,o,none⟩) xs.length cap/\g<w.heap.size/\S g/\w.cell? ⟨g,o+i*3,none⟩=some (.string xs[i].1)/\w.cell? ⟨g,o+i*3+1,none⟩=some (.string xs[i].2.1)/\w.cell? ⟨g,o+i*3+2,none⟩=some lv/\
   xs[i].1.size<=9223372036854775807/\xs[i].2.1.size<=9223372036854775807/\RdS rE w S lv xs[i].2.2:=by
 obtain⟨g,o,cap,cs,rfl,hg,hS,_,hc,hr⟩:=h.at i hi;obtain⟨c0,_,rfl,⟨rfl,k0⟩,c1,c2,rfl,⟨rfl,k1⟩,k2⟩:=hr;obtain⟨lv,_,e5,_⟩:=id k2;subst e5;exact⟨g,o,cap,lv,rfl,hg,hS,hc 0 _ rfl,hc 1 _ rfl,hc 2 _ rfl,k0,k1,k2⟩
theorem zok (ad:Option Addr) (cap z:Nat):yq ad cap 0 z=ad:=by
 unfold yq;by_cases hc:cap=0
 ·rw[if_pos hc]
 ·rw[if_neg hc];cases ad with
  | none=>rfl
  | some a=>simp[Addr.add]
theorem RdS.head0 {α:Type}{r:Rdr α}{w:World}{S:Nat->Prop}{cap n:Nat}{ad:Option Addr}{xs:List α} (h:RdS r w S (.slice ad n cap) xs) (k:Nat) (hk:k<=xs.length):RdS r w S (.slice ad k cap) (xs.take k):=by
 have h1:=h.cut 0 k (Nat.zero_le _) hk;rw[zok]at h1;simpa using h1
section
variable {w W W':World}{q g:Nat}{ρ:Nat->Option DRol}{N:Nat}{d:Dv}{n:Nat}{bs:List Bat}{U:Nat->Prop}
theorem TLog (h:StAt w W q g ρ N d n bs U) (hl:bs.length<=4) :
  Calls Tryz.prog 14 #[.pointer (some ⟨q,0,none⟩)] W fun e W'=>∃ v S',e = .returned (.tuple #[v,.bool true])/\OwnS rEntO 100 W' W.heap.size S' v (ixB bs).all/\(∀ k,S' k->W.heap.size<=k/\k<W'.heap.size)/\Ext W W':=by
 have H:=hid h;have hle:=zat bs;have HLE:=hid (show (ixB bs).all.length<=1000000 by omega);clear h hle;go_enter Tryz.func14,Tryz.ntmps14;go_wp2_with fail;refine(zx3 H.out hl).mono ?_;rintro e w1 ⟨v,S',rfl,h1,h2,h3⟩;obtain⟨a,c,rfl⟩:=h1.slice;have H1:=hid h1;have H2:=hid h2;have H3:=hid h3;clear h1 h2 h3;obtain⟨m,hm⟩ : ∃ m,m=(ixB bs).all.length:=⟨_,rfl⟩
 rw[<-hm]at H1 ⊢;have HM:=hid hm;clear hm;go_wp2_with fail;refine(zk9 (H.out.ext H3.out) hl).mono ?_;rintro e w2 ⟨rfl,rfl⟩;rw[<-HM.out];go_wp2_with fail;refine bodyPost_ret (v:=.tuple #[.slice a m c,.bool true]) (by simp[results,Tryz.results14,go_sem]) rfl ?_;exact⟨_,S',rfl,H1.out,H2.out,H3.out⟩
theorem TFew (W:World) (S:Nat->Prop) (va:Option Addr) (vc:Nat) (l:List Adg) (h:RdS rAd W S (.slice va l.length vc) l) :
  Calls Tryz.prog 7 #[.slice va l.length vc] W fun e w'=>e = .returned (.slice va (l.take 4).length vc)/\W=w':=by
 obtain⟨a,c,e,h1,h2⟩:=h.slice;simp only[Value.slice.injEq,true_and]at e;obtain⟨rfl,rfl⟩:=e;clear h;rw[List.length_take];obtain⟨m,hm⟩ : ∃ m,m=l.length:=⟨_,rfl⟩
 rw[<-hm]at h1 ⊢;clear hm;go_enter Tryz.func7,Tryz.ntmps7;go_wp2_with fail;go_ret;refine⟨?_,rfl⟩;rw[show min 4 m=(min (m:Int) 4).toNat by omega];rfl
theorem ztw (hm:Mine w W g ρ N d) (hN:N<=999600000) (hc:Calm d) (hL:d.safe.length=64) (hz : ∀ j:Int,0<=j->j<d.safe.length->curF d j=zb) :
  Calls Tryz.prog 21 #[.pointer (some ⟨g,0,none⟩)] W fun e W'=>e = .returned (.int .i64 0)/\∃ ρ' d' C,Mine w W' g ρ' (N+3000) d'/\Calm d'/\qk d'/\d'.safe.length=64/\LogS 64 (curF d') 2 C/\FsHome C none:=by
 have HF:=hid (zwk hm hN hc hL hz);clear hm hc hL hz;go_enter Tryz.func21,Tryz.ntmps21;go_wp2_with fail;refine HF.out.mono ?_;rintro e w1 ⟨rfl,ρ',d',C,h1⟩;go_wp2_with fail;go_ret;exact⟨rfl,ρ',d',C,h1⟩
theorem zq9 (W:World):Calls Tryz.prog 6 #[.int .i64 64] W fun e W'=>∃ g q ρ d n U,e = .returned (.tuple #[.pointer (some ⟨g,0,none⟩),.pointer (some ⟨q,0,none⟩)])/\StAt W W' q g ρ 4000 d n [] U/\Calm d/\n<=3:=by
 go_enter Tryz.func6,Tryz.ntmps6;go_wp2_with fail;refine(zx5 W).mono ?_;rintro e w1 ⟨g,rfl,ρ,hm⟩;have HM:=hid hm;clear hm;have hL0:(dv0 64).safe.length=64:=List.length_replicate;go_wp2_with fail;refine(ztw HM.out (by omega) (zth 64) hL0 (fun j h0 h1=>zvy h0 (by omega))).mono ?_;rintro e w2 ⟨rfl,ρ2,d2,C2,hm2,hc2,hs2,hl2,hlog2,hf2⟩;have HOP:=hid (zhe hm2 (by omega) hc2 hs2 hl2 (n:=2) (by omega) [] GoodB.nil (by simp) (FsImg.done hlog2 hf2 (Nat.le_refl _)));clear hm2 hc2 hs2 hl2 hlog2 hf2 hL0;go_wp2_with fail;refine HOP.out.mono ?_;rintro e w3 ⟨q,ρ3,d3,n3,U,rfl,hn3,hst3,hc3,-,-,-⟩;have HST:=hid hst3;clear hst3 HOP;go_wp2_with fail;refine bodyPost_ret (v:=.tuple #[.pointer (some ⟨g,0,none⟩),.pointer (some ⟨q,0,none⟩)]) (by simp[results,Tryz.results6,go_sem]) rfl ?_;exact⟨g,q,ρ3,d3,n3,U,rfl,HST.out.more (by omega),hc3,hn3⟩
end
end
section
open Go.RowKit Go.Maps
def upE:Ev:=(⟨#[111,112,101,110,101,100]⟩,1,[])
def upX:Bat:=(⟨#[97]⟩,⟨#[107]⟩,0,[upE])
theorem zuv:putB upX=(putBat upX,0):=by
 have h1:xe upX=true:=by decide
 have h2:upX.2.2.2.all evOk=true:=by decide
 have h3 : ¬ 2000<(putBat upX).length:=by
  have e1:=kz (bl upX.1);have e2:=kz (bl upX.2.1);have e3:=zq (upX.2.2.1.toNat);have e4:=zq upX.2.2.2.length;have e5:=kz (bl upE.1);have e6:=zq upE.2.1.toNat;have e7:=zq upE.2.2.length;rw[ze1]at e1 e2 e5;have h:putBat upX=vx upX++(vq upE++[]):=rfl;have h':vq upE=putT (bl upE.1)++(putU upE.2.1.toNat++(putU upE.2.2.length++[])):=rfl;have s1:upX.1.size=1:=rfl;have s2:upX.2.1.size=1:=rfl;have s3:upE.1.size=6:=rfl;rw[h,h'];unfold vx;simp only[List.length_append,List.length_nil];omega
 exact zih h1 h2 h3
theorem zpe:appB [] ⟨#[97]⟩ (-1) ⟨#[107]⟩ [upE]=((0,0,1,false),(0,[upX])):=by
 have ht:tryF (ixB []) ⟨#[97]⟩ (-1) ⟨#[107]⟩ [upE]=((0,0,1,false),(upX,0)):=by
  have h1:kc ⟨#[97]⟩ ⟨#[107]⟩=true:=by decide
  have h2:qs [upE]=true:=by decide
  unfold tryF;rw[if_neg (by rw[h1];simp)];show (if qs [upE]=false then _ else _)=_;rw[if_neg (by rw[h2];simp),if_neg (by omega),if_neg (by omega)];rfl
 unfold appB;rw[ht];rw[if_neg (by simp),if_neg (by rw[zuv];simp)];rfl
theorem zvh {W:World}{S:Nat->Prop}{k:Nat}{s:ByteArray}{n:Int}{t:TypeId} (h:W.heap[k]? = some (.cells #[.string s,.int .i64 n,.slice none 0 0] t (0,0))) (hk:S k) (hs:s.size<=9223372036854775807) (hn : -9223372036854775808<=n/\n<=9223372036854775807) :
  RdS rE W S (.slice (some ⟨k,0,none⟩) 1 1) [(s,n,[])]:=by
 refine⟨_,[([.string s,.int .i64 n,.slice none 0 0],(s,n,[]))],rfl,rfl,⟨_,_,rfl,Nat.le_refl _,by simp[maxLen],rfl,fun _=>⟨k,0,rfl,(blt h),fun j hj=>?_⟩⟩,fun _ j hj=>?_,fun p hp=>?_⟩
 ·rw[Nat.zero_add];exact(cell_of_row _ k j _ _ _ h).trans (by simp[cellsOf])
 ·simp only[Value.ownBlock,Option.some.injEq]at hj;exact hj▸hk
 ·obtain rfl:=List.mem_singleton.1 hp;exact⟨[.string s],[.int .i64 n,.slice none 0 0],rfl,⟨rfl,hs⟩,[.int .i64 n],[.slice none 0 0],rfl,⟨rfl,hn⟩,RdS.nil _ _ _⟩
theorem zwu:(ixB [upX]).all.length=1:=by
 have h1:kc upX.1 upX.2.1=true:=by decide
 have h2:qs upX.2.2.2=true:=by decide
 show (addF ix0 upX).1.all.length=1;unfold addF;rw[if_neg (by rw[h1];simp),if_neg (by simp[ix0]),if_neg (by rw[h2];simp),if_neg (by simp[ix0,upX])];rw[ze4,zcr];rfl
theorem ztu (W:World):Calls Tryz.prog 5 #[] W fun e W'=>e = .returned (.bool true)/\Ext W W':=by
 go_enter Tryz.func5,Tryz.ntmps5;go_wp2_with fail;refine(zq9 W).mono ?_;rintro e w1 ⟨g,q,ρ,d,n,U,rfl,hst,hc,hn⟩;have HST:=hid hst;have HC:=hid hc;clear hst hc;go_wp2_with fail;have hn2:=heap_alloc_new w1 (.cells #[.string ⟨#[111,112,101,110,101,100]⟩,.int .i64 1,.slice none 0 0] 58);have hx2:Ext w1 (w1.alloc (.cells #[.string ⟨#[111,112,101,110,101,100]⟩,.int .i64 1,.slice none 0 0] 58)):=(Ext.refl _).alloc _;obtain⟨ge,hge⟩ : ∃ ge,ge=w1.heap.size:=⟨_,rfl⟩
 rw[<-hge]at hn2 ⊢;generalize (w1.alloc (.cells #[.string ⟨#[111,112,101,110,101,100]⟩,.int .i64 1,.slice none 0 0] 58))=w2 at hn2 hx2 ⊢;have happ:=zgk (HST.out.ext hx2) (by omega) (by omega) (by simp) ⟨#[97]⟩ (by decide) (-1) (by omega) ⟨#[107]⟩ (by decide) (fun _=>True) _ [upE] (zvh hn2 trivial (by decide) (by omega)) (by simp) (by rw[zpe];simp);rw[zpe]at happ;have HAPP:=hid happ;clear happ hn2 hx2 hge;refine HAPP.out.mono ?_;rintro e w3 ⟨ρ3,d3,U3,hu3,hk3,hr3,⟨rfl,hf3,n3,hn3,hst3⟩|⟨rfl,hnf,-⟩⟩
 ·have HST3:=hid hst3;clear hst3 hu3 hk3 hr3 HAPP;dsimp only[encA];go_wp2_with fail;have hn4:=heap_alloc_new w3 (.cells #[.int .i64 0,.int .i64 0,.int .i64 1,.bool false] 41);have hx4:Ext w3 (w3.alloc (.cells #[.int .i64 0,.int .i64 0,.int .i64 1,.bool false] 41)):=(Ext.refl _).alloc _;obtain⟨ga,hga⟩ : ∃ ga,ga=w3.heap.size:=⟨_,rfl⟩
  rw[<-hga]at hn4 ⊢;generalize (w3.alloc (.cells #[.int .i64 0,.int .i64 0,.int .i64 1,.bool false] 41))=w4 at hn4 hx4 ⊢;have hd:=(HST3.out.ext hx4).dev;obtain⟨hm4,-,-,hl4,-,hi4⟩:=hd;have HN4:=hid hn4;have hρ:ρ3 ga=none:=by
   have:=HST3.out.dev.1.late (Ext.refl _) (k:=ga) (by omega);exact this
  have HR:=hid hρ;have HCR:=hid (zrd hm4 (by omega) hl4 (fun s=>FsImg n3 s (filB [upX])) hi4 (fun _=>False) (.slice none 0 0) [] (RdS.nil _ _ _) (fun _ h=>h.elim));clear hn4 hx4 hga hm4 hl4 hi4 hρ;refine HCR.out.mono ?_;rintro e w5 ⟨rfl,d5,hm5,hc5,hs5,hl5,hi5,hk5⟩;have hr5:w5.heap[ga]? = _:=(hk5.block ga HR.out (blt HN4.out)).trans HN4.out;have HR5:=hid hr5;have HOP:=hid (zhe hm5 (by omega) hc5 hs5 hl5 (n:=n3) (by omega) [upX] HST3.out.good (by simp) hi5);have hm5z:=hm5.ex.size;have hlate:=fun j (hj:w5.heap.size<=j)=>hm5.late (Ext.refl _) hj;clear hm5 hc5 hs5 hl5 hi5 hk5 hr5 HCR;go_wp2_with fail;refine HOP.out.mono ?_;rintro e w6 ⟨q6,ρ6,d6,n6,U6,rfl,hn6,hst6,hc6,hr6,hk6,hu6⟩;have hr6:w6.heap[ga]? = _:=(hk6.block ga HR.out (blt HR5.out)).trans HR5.out;have c0:w6.cell? ⟨ga,0,none⟩=some (.int .i64 0):=(cr 0 hr6)
  have c1:w6.cell? ⟨ga,1,none⟩=some (.int .i64 0):=(cr 1 hr6)
  have c2:w6.cell? ⟨ga,2,none⟩=some (.int .i64 1):=(cr 2 hr6)
  have c3:w6.cell? ⟨ga,3,none⟩=some (.bool false):=(cr 3 hr6)
  have HST6:=hid hst6;clear hst6 hr6 hk6 hu6 hlate hm5z;go_wp2_with fail;have HLN:=hid (zk9 HST6.out (by simp));rw[zwu]at HLN;refine HLN.out.mono ?_;rintro e w7 ⟨rfl,rfl⟩;go_wp2_with fail;go_ret;exact⟨rfl,HST6.out.dev.1.ex⟩
 ·exact absurd HC.out.2.1 hnf
end
section
open Go.RowKit Go.Maps
theorem zr0 (x:Ix) (s:ByteArray) (n:Int) (k:ByteArray) (l:List Ev):(tryF x s n k l).2.2≠2:=by
 unfold tryF;split
 ·decide
 ·cases x.key k with
  | some z=>
   dsimp only;split <;> simp
  | none=>
   dsimp only;split
   ·decide
   ·split
    ·decide
    ·split
     ·decide
     ·simp
theorem ztl (bs:List Bat) (s:ByteArray) (n:Int) (k:ByteArray) (l:List Ev):(appB bs s n k l).2.1≠2:=by
 unfold appB;split
 ·exact zr0 _ _ _ _ _
 ·split
  ·show (110:Nat)≠2;decide
  ·show (0:Nat)≠2;decide
def zfc (bs:List Bat) (a:Adg):List Bat:=(appB bs a.1 (-1) a.2.1 a.2.2).2.2
def stB (l:List Adg) (i:Nat):List Bat:=(l.take i).foldl zfc []
theorem zr3 (l:List Adg) (i:Nat) (hi:i<l.length):stB l (i+1)=zfc (stB l i) l[i]:=by
 unfold stB;rw[List.take_succ_eq_append_getElem hi,List.foldl_append];rfl
theorem zfe (l:List Adg) (i:Nat):(stB l i).length<=i:=by
 have h : ∀ (m:List Adg) (bs:List Bat),(m.foldl zfc bs).length<=bs.length+m.length:=by
  intro m;induction m with
  | nil=>intro bs;simp
  | cons a m ih=>
   intro bs;have h1:=ih (zfc bs a);have h2:=ztk bs a.1 (-1) a.2.1 a.2.2;simp only[List.foldl_cons,List.length_cons];unfold zfc at h1 ⊢;omega
 have:=h (l.take i) [];rw[List.length_take]at this;simp only[List.length_nil,Nat.zero_add]at this;unfold stB;omega
def vt (l:List Adg) (k:Nat):List (List Ent):=(List.range k).map fun i=>(ixB (stB l i)).all
theorem kq (l:List Adg) (k:Nat):(vt l k).length=k:=by simp[vt]
theorem zoa (l:List Adg) (k:Nat):vt l (k+1)=vt l k++[(ixB (stB l k)).all]:=by simp[vt,List.range_succ]
theorem zio (l:List Adg) (k i:Nat) (hi:i<k):(vt l k)[i]'(by rw[kq];exact hi)=(ixB (stB l i)).all:=by simp[vt]
section
variable {w W W' W0:World}{q g:Nat}{ρ:Nat->Option DRol}{N:Nat}{d:Dv}{n:Nat}{bs:List Bat}{U:Nat->Prop}{z:Apd × (Nat × List Bat)}{er:Int}
def StRes (w W:World) (q g:Nat) (ρ:Nat->Option DRol) (N:Nat) (d:Dv) (n:Nat) (bs:List Bat) (U:Nat->Prop) (z:Apd × (Nat × List Bat)) (er:Int) (W':World):Prop:=
 ∃ ρ' d' U',(∀ j,U' j->U j\/W.heap.size<=j)/\Keep (fun j=>¬ U j) W W'/\(∀ j,ρ' j≠none->U' j)/\
  ((er=((z.2.1:Nat):Int)/\(d.fuse = -1->d'.fuse = -1)/\∃ n',n'<=n+1/\StAt w W' q g ρ' (N+21000) d' n' z.2.2 U')\/
   (er=2/\d.fuse≠ -1/\DownAt w W' g ρ' (N+21000) d' 64 fun s=>FsImg (n+1) s (filB bs)\/FsImg (n+1) s (filB z.2.2)))
theorem StEnd.res {e:Ending} (h:StEnd w W q g ρ N d n bs U z e W') : ∃ a er,e = .returned (.tuple #[encA a,.int .i64 er])/\StRes w W q g ρ N d n bs U z er W':=by
 obtain⟨ρ',d',U',h1,h2,h3,⟨rfl,h4⟩|⟨rfl,h4⟩⟩:=h
 ·exact⟨_,_,rfl,ρ',d',U',h1,h2,h3,.inl ⟨rfl,h4⟩⟩
 ·exact⟨_,_,rfl,ρ',d',U',h1,h2,h3,.inr ⟨rfl,h4⟩⟩
theorem StRes.past {B:Nat}{W'':World} (hx:Ext W0 W) (h:StRes w W q g ρ N d n bs U z er W') (hk:Keep (fun j=>j≠B) W' W'') (hB0:W0.heap.size<=B) (hU : ∀ j,U j->j≠B) (hB:B<W.heap.size\/W'.heap.size<=B) (hw:w.heap.size<=W0.heap.size):StRes w W0 q g ρ N d n bs U z er W'':=by
 obtain⟨ρ',d',U',h1,h2,h3,h4⟩:=h;refine⟨ρ',d',U',fun j hj=>?_,?_,h3,?_⟩
 ·rcases h1 j hj with h|h
  ·exact .inl h
  ·exact .inr (Nat.le_trans hx.size h)
 ·have k1:Keep (fun j=>¬ U j/\j<W0.heap.size) W0 W':=(hx.keep _).trans (h2.mono fun j hj _=>hj.1);exact(k1.trans (hk.mono fun j hj _=>by have:j<W0.heap.size:=hj.2;omega)).mono fun j hj hl=>⟨hj,hl⟩
 ·rcases h4 with⟨e1,e2,n',e3,e4⟩|⟨e1,e2,e3⟩
  ·refine .inl ⟨e1,e2,n',e3,e4.keep (hk.mono fun j hj _ e=>?_)⟩;subst e;rcases hj with hj|hj
   ·rcases hB with hB|hB
    ·rcases h1 j hj with h|h
     ·exact hU j h rfl
     ·omega
    ·have:=(e4.low j hj).2;omega
   ·omega
  ·refine .inr ⟨e1,e2,{ e3 with hm:=e3.hm.kept (hk.mono fun j hj _ e=>?_) }⟩;subst e;rcases hj with hj|hj
   ·rcases hB with hB|hB
    ·rcases h1 j (h3 j hj) with h|h
     ·exact hU j h rfl
     ·omega
    ·exact hj (e3.hm.late (Ext.refl _) hB)
   ·omega
theorem zw9:(Tryz.prog.info? 47).map (fun i=>(i.zero,i.size,i.bytes))=some (some (.slice none 0 0),1,24):=by kernel_rfl
theorem OwnS.single {α:Type}{r:Rdr α}{t:TypeId}{w:World}{S:Nat->Prop}{u:Value}{x:α} (B:Nat) (hB:B<=w.heap.size) (h:r.rd (w.alloc (.cells #[u] t)) S [u] x) (h1:r.size=1) (hS : ¬ S w.heap.size) :
  OwnS r t (w.alloc (.cells #[u] t)) B S (.slice (some ⟨w.heap.size,0,none⟩) 1 1) [x]:=by
 refine⟨[([u],x)],rfl,?_,fun k hk=>?_,fun p hp=>?_⟩
 ·rw[h1];exact World.ownsRow_lit w #[u] 1 hB (by unfold maxLen;decide) rfl
 ·simp only[Value.ownBlock,Option.some.injEq]at hk;subst hk;exact hS
 ·obtain rfl:=List.mem_singleton.1 hp;exact h
theorem znu (w:World) (u:Value) (hu:u.oneCell'=true:=by rfl) {L:List Ent}:Src Tryz.prog (rSl rEnt).size 34 (.slice (some ⟨w.heap.size,0,none⟩) 1 1) ([([u],L)]:List (List Value × List Ent)).length (cellsOf [([u],L)]) (w.alloc (.cells #[u] 47)):=by
 refine zby Tryz.underlying34 (heap_alloc_new _ _) (fun x hx=>?_) rfl;simp only[cellsOf,List.flatMap_cons,List.flatMap_nil,List.append_nil,List.mem_cons,List.not_mem_nil,or_false]at hx;rcases hx with rfl;exact hu
def RunI (w W:World) (q g:Nat) (N:Nat) (d:Dv) (n:Nat) (U:Nat->Prop) (l:List Adg) (i:Nat) (v:Value) (V:World):Prop:=
 ∃ Sv ρ' d' n' U',StAt w V q g ρ' (N+21000*i) d' n' (stB l i) U'/\n'<=n+i/\(d.fuse = -1->d'.fuse = -1)/\OwnS (rSl rEnt) 47 V W.heap.size Sv v (vt l (i+1))/\
  (∀ j,(Sv j\/v.ownBlock=some j)->W.heap.size<=j/\j<V.heap.size/\¬ U' j)/\(∀ j,U' j->U j\/W.heap.size<=j)/\Keep (fun j=>¬ U j) W V
def zxk (w W:World) (q g:Nat) (N:Nat) (d:Dv) (n:Nat) (U:Nat->Prop) (l:List Adg) (e:Ending) (V:World):Prop:=
 ∃ k v Sv ρ' d' n' U',k<=l.length/\e = .returned (.tuple #[v,.bool true])/\n'<=n+4/\(d.fuse = -1->d'.fuse = -1/\k=l.length)/\OwnS (rSl rEnt) 47 V W.heap.size Sv v (vt l (k+1))/\
  (∀ j,(Sv j\/v.ownBlock=some j)->W.heap.size<=j/\j<V.heap.size/\¬ U' j)/\(∀ j,U' j->U j\/W.heap.size<=j)/\Keep (fun j=>¬ U j) W V/\(∀ j,ρ' j≠none->U' j)/\Mine w V g ρ' (N+100000) d'/\d'.safe.length=64/\
  (∀ s,Img d' s->FsImg n' s (filB (stB l k))\/(k<l.length/\FsImg n' s (filB (stB l (k+1)))))/\(k=l.length->StAt w V q g ρ' (N+100000) d' n' (stB l k) U'\/d.fuse≠ -1)
theorem TRun (h:StAt w W q g ρ N d n [] U) (hN:N<=900000000) (hn:n<=90000000) (S:Nat->Prop) (va:Option Addr) (vc:Nat) (l:List Adg) (hl:l.length<=4) (hv:RdS rAd W S (.slice va l.length vc) l) (hS : ∀ j,S j->j<W.heap.size->¬ U j) :
  Calls Tryz.prog 8 #[.pointer (some ⟨q,0,none⟩),.slice va l.length vc] W (zxk w W q g N d n U l):=by
 have H:=hid h;have HV:=hid (RdS.mono hv (S':=fun j=>S j/\j<W.heap.size) fun j hj hz=>⟨hj,hz⟩);have HS:=hid (show ∀ j,S j/\j<W.heap.size->¬ U j from fun j hj=>hS j hj.1 hj.2);clear h hv hS;go_enter Tryz.func8,Tryz.ntmps8;go_wp2_with fail;refine(TLog H.out (by simp)).mono ?_;rintro e w1 ⟨v1,S1,rfl,ho1,hs1,hx1⟩;obtain⟨a1,c1,rfl⟩:=ho1.slice;have HO1:=hid ho1;have HS1:=hid hs1;have HX1:=hid hx1;clear ho1 hs1 hx1;obtain⟨m1,hm1⟩ : ∃ m1,m1=(ixB []).all.length:=⟨_,rfl⟩
 rw[<-hm1]at HO1 ⊢;clear hm1;have hrd1:RdS rEnt w1 (fun j=>S1 j\/(Value.slice a1 m1 c1).ownBlock=some j) (.slice a1 m1 c1) (ixB []).all:=RdS.weak zds (fun h=>zdr h) HO1.out.rd;have hx2:Ext w1 (w1.alloc (.cells #[.slice a1 m1 c1] 47)):=(Ext.refl _).alloc _;have hz2:(w1.alloc (.cells #[.slice a1 m1 c1] 47)).heap.size=w1.heap.size+1:=by simp
 have hown:OwnS (rSl rEnt) 47 (w1.alloc (.cells #[.slice a1 m1 c1] 47)) W.heap.size (fun j=>S1 j\/(Value.slice a1 m1 c1).ownBlock=some j) (.slice (some ⟨w1.heap.size,0,none⟩) 1 1) [(ixB []).all]:=
  OwnS.single W.heap.size HX1.out.size (hrd1.ext hx2) rfl (fun h=>by
   rcases h with h|h
   ·have:=(HS1.out _ h).2;omega
   ·have:=(HO1.out.lt _ h).2;omega)
 go_upto_region 3 with fail;generalize hg2:(w1.alloc (.cells #[.slice a1 m1 c1] 47))=w2 at hx2 hz2 hown ⊢;clear hg2;obtain⟨g2,hg2⟩ : ∃ g2,g2=w1.heap.size:=⟨_,rfl⟩
 rw[<-hg2]at hown hz2 ⊢;have HX2:=hid (HX1.out.trans hx2);have hU:=H.out.low;have hrun:RunI w W q g N d n U l 0 (.slice (some ⟨g2,0,none⟩) 1 1) w2:=by
  refine⟨_,ρ,d,n,U,(H.out.ext HX2.out).more (by omega),by omega,fun h=>h,hown,fun j hj=>?_,fun j hj=>.inl hj,HX2.out.keep _⟩;have hz1:=HX1.out.size;rcases hj with (hj|hj)|hj
  ·have h1:=HS1.out j hj;exact⟨h1.1,by omega,fun h=>by have:=(hU j h).2;omega⟩
  ·have h1:=HO1.out.lt j hj;exact⟨h1.1,by omega,fun h=>by have:=(hU j h).2;omega⟩
  ·have e:g2=j:=by simpa[Value.ownBlock] using hj
   exact⟨by omega,by omega,fun h=>by have:=(hU j h).2;omega⟩
 have HRUN:=hid hrun;clear hrd1 hx2 hz2 hown hg2 hrun hU;go_wp2_with fail;go_loopw [7,8,9] (fun u7 u8 u9 wr=>∃ i:Nat,i<=l.length/\u7 = .bool true/\u9 = .int .i64 (i:Int)/\RunI w W q g N d n U l i u8 wr) (fun _ _ u9 _=>l.length-(intOf u9).toNat);case atStart=>exact⟨0,by omega,rfl,rfl,HRUN.out⟩
 case round=>
  obtain⟨i,hi,rfl,rfl,hri⟩:=hrel;have HRI:=hid hri;obtain⟨Sv,ρ',d',n',U',hst,hn',hfu,ho,hb,hUU,hkk⟩:=hri;obtain⟨a8,c8,rfl⟩:=ho.slice;rw[kq]at ho hb ⊢;have HST:=hid hst;have HN':=hid hn';have HFU:=hid hfu;have HO:=hid ho;have HB:=hid hb;have HUU:=hid hUU;have HKK:=hid hkk;clear hst hn' hfu ho hb hUU hkk;by_cases hlt:i<l.length
  ·obtain⟨gl,ol,cl,lv,hvs,hgl,hSl,c0,c1,c2,hs0,hs1,hev⟩:=((HV.out.kept (HKK.out.mono fun j hj _=>HS.out j hj))).atAd i hlt;simp only[Value.slice.injEq,true_and]at hvs;obtain⟨rfl,rfl⟩:=hvs;obtain⟨ea,ec,rfl,hec1,hec2⟩:=hev.slice;have hle:=Nat.le_trans hec1 hec2;obtain⟨x,hx⟩ : ∃ x,x=l[i]:=⟨_,rfl⟩
   rw[<-hx]at c0 c1 c2 hs0 hs1 hev hle;have HEV:=hid hev;have HXI:=hid hx;clear hev hx;have hstl:=zfe l i;have hap:(appB (stB l i) x.1 (-1) x.2.1 x.2.2).2.2=stB l (i+1):=by rw[zr3 l i hlt,<-HXI.out];rfl
   have hle4:=zfe l (i+1);have HAP:=hid hap;have HAL:=hid (show (appB (stB l i) x.1 (-1) x.2.1 x.2.2).2.2.length<=4 by rw[hap];omega);have HLE:=hid hle;have hUl:=HST.out.low;have HGL:=hid (show ¬ U' gl from fun h=>by
    have h1:=HS.out gl hSl;rcases HUU.out gl h with h|h
    ·exact h1 h
    ·have:=hSl.2;omega)
   have HWW:=hid (show w.heap.size<=wr.heap.size from HST.out.dev.1.ex.size);have HUL:=hid (show ∀ j,U' j->j<wr.heap.size from fun j hj=>(hUl j hj).2);clear hap hle hec1 hec2 hUl;go_upto_region 6 with fail;have hxd:Ext wr wr.drew:=(Ext.refl _).drew;have HXD:=hid hxd;have HC:=hid (show wr.cell? ⟨gl,ol+i*3,none⟩=some (.string x.1)/\wr.cell? ⟨gl,ol+i*3+1,none⟩=some (.string x.2.1)/\wr.cell? ⟨gl,ol+i*3+2,none⟩=some (.slice ea x.2.2.length ec) from⟨c0,c1,c2⟩);have HCX:=hid (fun (w':World) (hk:Keep (fun j=>j=gl) wr w')=>show w'.cell? ⟨gl,ol+i*3,none⟩=some (.string x.1)/\w'.cell? ⟨gl,ol+i*3+1,none⟩=some (.string x.2.1)/\w'.cell? ⟨gl,ol+i*3+2,none⟩=some (.slice ea x.2.2.length ec) from⟨hk.cell c0 rfl,hk.cell c1 rfl,hk.cell c2 rfl⟩);have hin : ¬ ((i:Int)<0):=by omega
   have hin2:(i:Int)<(l.length:Int):=by omega
   refine zr (fun w'=>w'.cell? ⟨gl,ol+i*3,none⟩=some (.string x.1)/\w'.cell? ⟨gl,ol+i*3+1,none⟩=some (.string x.2.1)/\w'.cell? ⟨gl,ol+i*3+2,none⟩=some (.slice ea x.2.2.length ec)) [] (by kernel_rfl) (HCX.out _ (hxd.keep _)) (fun hS=>?_);clear c0 c1 c2;(refine za 0 rfl ?_;(try simp only[Act.put,tq0,tq1,tq2,tq3,tq4,tq5]));(refine za 1 rfl ?_;(try simp only[Act.put,tq0,tq1,tq2,tq3,tq4,tq5]));(refine za 2 rfl ?_;(try simp only[Act.put,tq0,tq1,tq2,tq3,tq4,tq5]));(refine za 3 rfl ?_;(try simp only[Act.put,tq0,tq1,tq2,tq3,tq4,tq5]));(refine za 4 rfl ?_;(try simp only[Act.put,tq0,tq1,tq2,tq3,tq4,tq5]));(refine za 5 rfl ?_;(try simp only[Act.put,tq0,tq1,tq2,tq3,tq4,tq5]));(refine za 6 rfl ?_;(try simp only[Act.put,tq0,tq1,tq2,tq3,tq4,tq5]));(refine za 7 rfl ?_;(try simp only[Act.put,tq0,tq1,tq2,tq3,tq4,tq5]));(refine za 8 rfl ?_;(try simp only[Act.put,tq0,tq1,tq2,tq3,tq4,tq5]));(refine za 9 rfl ?_;(try simp only[Act.put,tq0,tq1,tq2,tq3,tq4,tq5]));(refine za 10 rfl ?_;(try simp only[Act.put,tq0,tq1,tq2,tq3,tq4,tq5]));(refine za 11 rfl ?_;(try simp only[Act.put,tq0,tq1,tq2,tq3,tq4,tq5]));(refine za 12 rfl ?_;(try simp only[Act.put,tq0,tq1,tq2,tq3,tq4,tq5]));(refine za 13 rfl ?_;(try simp only[Act.put,tq0,tq1,tq2,tq3,tq4,tq5]));(refine za 14 rfl ?_;(try simp only[Act.put,tq0,tq1,tq2,tq3,tq4,tq5]));(refine za 15 rfl ?_;(try simp only[Act.put,tq0,tq1,tq2,tq3,tq4,tq5]));refine ze (rs:=[16,20]) (by kernel_rfl) (by decide) (AllT.consS rfl (fun K hK=>?_) (AllT.consS rfl (fun K hK=>?_) AllT.nil));go_simp;refine(zgk (HST.out.ext HXD.out) (by omega) (by have:=HN'.out;omega) (by omega) x.1 hs0 (-1) (by omega) x.2.1 hs1 _ _ x.2.2 (HEV.out.ext HXD.out) HLE.out HAL.out).mono ?_;rintro e w3 hend;obtain⟨a,er,rfl,hres⟩:=hend.res;obtain⟨a5,a6,a7,a9⟩:=a;dsimp only[encA];have HRES:=hid hres;have HK3:=hid (show Keep (fun j=>¬ U' j) wr w3 from (HXD.out.keep _).trans (by obtain⟨_,_,_,_,h,_⟩:=hres;exact h));clear hend hres;(refine hK.out _ _ (HCX.out _ (HK3.out.mono fun j hj _=>by rw[hj];exact HGL.out)) (fun hS=>?_);clear hK K);(refine za 17 rfl ?_;(try simp only[Act.put,tq0,tq1,tq2,tq3,tq4,tq5]));(refine za 18 rfl ?_;(try simp only[Act.put,tq0,tq1,tq2,tq3,tq4,tq5]));(refine za 19 rfl ?_;(try simp only[Act.put,tq0,tq1,tq2,tq3,tq4,tq5]));refine ze (rs:=[20]) (by kernel_rfl) (by decide) (AllT.consS rfl (fun K hK=>?_) AllT.nil);go_simp;have hx4:Ext w3 (w3.alloc (.cells #[.int .i64 0,.int .i64 0,.int .i64 0,.bool false] 41)):=(Ext.refl _).alloc _;have hn4:=heap_alloc_new w3 (.cells #[.int .i64 0,.int .i64 0,.int .i64 0,.bool false] 41);obtain⟨ga,hga⟩ : ∃ ga,ga=w3.heap.size:=⟨_,rfl⟩
   rw[<-hga]at hn4 ⊢;generalize (w3.alloc (.cells #[.int .i64 0,.int .i64 0,.int .i64 0,.bool false] 41))=V3 at hx4 hn4 ⊢;have HX4:=hid hx4;have HROW:=hid hn4;have HPAST:=hid (show ∀ V4,Keep (fun j=>j≠ga) V3 V4->StRes w wr q g ρ' (N+21000*i) d' n' (stB l i) U' (appB (stB l i) x.1 (-1) x.2.1 x.2.2) er V4 from fun V4 hk=>StRes.past HXD.out HRES.out ((HX4.out.keep _).trans hk) (by have:=HK3.out.size;omega) (fun j hj e=>by have:=HUL.out j hj;have:=HK3.out.size;omega) (.inr (by omega)) HWW.out);have HGE:=hid (show ga=w3.heap.size from hga);clear hx4 hn4 hga;(refine hK.out _ _ (HCX.out _ ((HK3.out.mono fun j hj _=>by rw[hj];exact HGL.out).trans (HX4.out.keep _))) (fun hS=>?_);clear hK K);have HNG:=hid (show gl≠ga by have:=HK3.out.size;have:=HGE.out;omega);clear HGE HRES HK3 HX4;rotate_left
   go_simp;have hx2:Ext wr ((wr.alloc (.cells #[.int .i64 0,.int .i64 0,.int .i64 0,.bool false] 41)).drew):=((Ext.refl _).alloc _).drew;have hn2:((wr.alloc (.cells #[.int .i64 0,.int .i64 0,.int .i64 0,.bool false] 41)).drew).heap[wr.heap.size]? = _:=heap_alloc_new wr (.cells #[.int .i64 0,.int .i64 0,.int .i64 0,.bool false] 41);have hz2:((wr.alloc (.cells #[.int .i64 0,.int .i64 0,.int .i64 0,.bool false] 41)).drew).heap.size=wr.heap.size+1:=by simp
   obtain⟨ga,hga⟩ : ∃ ga,ga=wr.heap.size:=⟨_,rfl⟩
   rw[<-hga]at hn2 hz2 ⊢;generalize ((wr.alloc (.cells #[.int .i64 0,.int .i64 0,.int .i64 0,.bool false] 41)).drew)=V2 at hx2 hn2 hz2 ⊢;have HX2D:=hid hx2;have HN2:=hid hn2;have HGA:=hid (show wr.heap.size<=ga/\ga<V2.heap.size from⟨by omega,by omega⟩);clear hx2 hn2 hz2 hga;(refine hK.out _ _ (HCX.out _ (HX2D.out.keep _)) (fun hS=>?_);clear hK K);refine ze (rs:=[16]) (by kernel_rfl) (by decide) (AllT.consS rfl (fun K hK=>?_) AllT.nil);go_simp;refine(zgk (HST.out.ext HX2D.out) (by omega) (by have:=HN'.out;omega) (by omega) x.1 hs0 (-1) (by omega) x.2.1 hs1 _ _ x.2.2 (HEV.out.ext HX2D.out) HLE.out HAL.out).mono ?_;rintro e V3 hend;obtain⟨a,er,rfl,hres⟩:=hend.res;obtain⟨a5,a6,a7,a9⟩:=a;dsimp only[encA];have HK3:=hid (show Keep (fun j=>¬ U' j) V2 V3 by obtain⟨_,_,_,_,h,_⟩:=hres;exact h);have HROW:=hid (show V3.heap[ga]? = _ from (HK3.out.block ga (fun h=>by have:=HUL.out ga h;have:=HGA.out;omega) HGA.out.2).trans HN2.out);have HPAST:=hid (show ∀ V4,Keep (fun j=>j≠ga) V3 V4->StRes w wr q g ρ' (N+21000*i) d' n' (stB l i) U' (appB (stB l i) x.1 (-1) x.2.1 x.2.2) er V4 from fun V4 hk=>StRes.past HX2D.out hres hk HGA.out.1 (fun j hj e=>by have:=HUL.out j hj;have:=HGA.out;omega) (.inl HGA.out.2) HWW.out);clear hend hres;(refine hK.out _ _ (HCX.out _ ((HX2D.out.keep _).trans (HK3.out.mono fun j hj _=>by rw[hj];exact HGL.out))) (fun hS=>?_);clear hK K);have HNG:=hid (show gl≠ga by have:=HGA.out;omega);clear HK3 HN2 HGA HX2D;(refine za 17 rfl ?_;(try simp only[Act.put,tq0,tq1,tq2,tq3,tq4,tq5]));(refine za 18 rfl ?_;(try simp only[Act.put,tq0,tq1,tq2,tq3,tq4,tq5]));(refine za 19 rfl ?_;(try simp only[Act.put,tq0,tq1,tq2,tq3,tq4,tq5]));all_goals
    have f0:=zg HROW.out 0;have f1:=zg HROW.out 1;have f2:=zg HROW.out 2;have f3:=zg HROW.out 3;have g0:V3.cell? ⟨ga,0,none⟩=some (.int .i64 0):=(cr 0 HROW.out)
    have g1:V3.cell? ⟨ga,1,none⟩=some (.int .i64 0):=(cr 1 HROW.out)
    have g2':V3.cell? ⟨ga,2,none⟩=some (.int .i64 0):=(cr 2 HROW.out)
    have g3:V3.cell? ⟨ga,3,none⟩=some (.bool false):=(cr 3 HROW.out)
    refine ze (rs:=[21]) (by kernel_rfl) (by decide) (AllT.consS rfl (fun K hK=>?_) AllT.nil);go_simp;have hk4:Keep (fun j=>j≠ga) V3 ((((V3.setCell ⟨ga,0,none⟩ (.int .i64 a5)).setCell ⟨ga,1,none⟩ (.int .i64 a6)).setCell ⟨ga,2,none⟩ (.int .i64 a7)).setCell ⟨ga,3,none⟩ (.bool a9)):=(((((Keep.refl _ _).setCell (p:=⟨ga,0,none⟩) (fun h=>h rfl) _).setCell (p:=⟨ga,1,none⟩) (fun h=>h rfl) _).setCell (p:=⟨ga,2,none⟩) (fun h=>h rfl) _).setCell (p:=⟨ga,3,none⟩) (fun h=>h rfl) _)
    generalize ((((V3.setCell ⟨ga,0,none⟩ (.int .i64 a5)).setCell ⟨ga,1,none⟩ (.int .i64 a6)).setCell ⟨ga,2,none⟩ (.int .i64 a7)).setCell ⟨ga,3,none⟩ (.bool a9))=V4 at hk4 ⊢;have HK4:=hid hk4;clear f0 f1 f2 f3 g0 g1 g2' g3 hk4;(refine hK.out _ _ (⟨HK4.out.cell hS.1 HNG.out,HK4.out.cell hS.2.1 HNG.out,HK4.out.cell hS.2.2 HNG.out⟩) (fun hS=>?_);clear hK K);refine ze (rs:=[22]) (by kernel_rfl) (by decide) (AllT.consS rfl (fun K hK=>?_) AllT.nil);go_simp;(refine hK.out _ _ (hS) (fun hS=>?_);clear hK K);refine zn (by kernel_rfl) (NoPanic.normal ?_) _;obtain⟨ρ3,d3,U3,hu3,hk3,hr3,h3⟩:=HPAST.out V4 HK4.out;have HU3:=hid hu3;have HK3:=hid hk3;have HR3:=hid hr3;clear hu3 hk3 hr3 hS HK4 HPAST HROW HNG;rcases h3 with⟨rfl,hf3,n3,hn3,hst3⟩|⟨rfl,hnf,hdn⟩
    ·have her:=ztl (stB l i) x.1 (-1) x.2.1 x.2.2;rw[HAP.out]at hst3;have HST3:=hid hst3;obtain⟨m3,hm3⟩ : ∃ m3,m3=(appB (stB l i) x.1 (-1) x.2.1 x.2.2).2.1:=⟨_,rfl⟩
     rw[<-hm3]at her ⊢;have he1:((m3:Int) == 2)=false:=by simp;omega
     have he2 : ¬ ((m3:Int)=2):=by omega
     clear hst3 hm3 her;go_wp2_with fail;refine(TLog HST3.out (by omega)).mono ?_;rintro e V5 ⟨v5,S5,rfl,ho5,hs5,hx5⟩;obtain⟨b5,k5,rfl⟩:=ho5.slice;have HO5:=hid ho5;have HS5:=hid hs5;have HX5:=hid hx5;obtain⟨m5,hm5⟩ : ∃ m5,m5=(ixB (stB l (i+1))).all.length:=⟨_,rfl⟩
     rw[<-hm5]at HO5 ⊢;clear ho5 hs5 hx5 hm5;have hE5:RdS rEnt V5 (fun j=>S5 j\/(Value.slice b5 m5 k5).ownBlock=some j) (.slice b5 m5 k5) (ixB (stB l (i+1))).all:=RdS.weak zds (fun h=>zdr h) HO5.out.rd;have HE5:=hid hE5;have hz3:=HK3.out.size;have hz5:=HX5.out.size;obtain⟨S6,hS6⟩ : ∃ S6:Nat->Prop,S6=fun j=>Sv j\/S5 j\/(Value.slice b5 m5 k5).ownBlock=some j:=⟨_,rfl⟩
     have h56 : ∀ j,(S5 j\/(Value.slice b5 m5 k5).ownBlock=some j)->V4.heap.size<=j/\j<V5.heap.size:=fun j hj=>by
      rcases hj with hj|hj
      ·exact HS5.out j hj
      ·exact HO5.out.lt j hj
     have hap:OwnS (rSl rEnt) 47 V5 W.heap.size S6 (.slice a8 (i+1) c8) (vt l (i+1)):=by
      have k1:=(HO.out.kept (HK3.out.mono fun j hj _=>(HB.out j hj).2.2)).ext HX5.out;have hno : ∀ k,(Value.slice a8 (i+1) c8).ownBlock=some k->¬ Sv k:=by
       obtain⟨_,_,_,h2,_⟩:=HO.out;exact h2
      refine k1.widen (fun j hj _=>by rw[hS6];exact .inl hj) fun j hj h=>?_;rw[hS6]at h;rcases h with h|h
      ·exact hno j hj h
      ·have h1:=(HB.out j (.inr hj)).2.1;have h2:=(h56 j h).1;omega
     have HAPP:=hid (hap.ext ((Ext.refl V5).alloc (.cells #[.slice b5 m5 k5] 47)));have HSL:=hid (show ∀ j,S6 j->W.heap.size<=j/\j<V5.heap.size/\¬ U3 j from fun j hj=>by
      have hW:=HKK.out.size;rw[hS6]at hj;rcases hj with hj|hj
      ·have h1:=HB.out j (.inl hj);refine⟨h1.1,by omega,fun h=>?_⟩;rcases HU3.out j h with h|h
       ·exact h1.2.2 h
       ·omega
      ·have h1:=h56 j hj;exact⟨by omega,h1.2,fun h=>by have:=(HST3.out.low j h).2;omega⟩)
     have HSA:=hid (show ∀ j,(S5 j\/(Value.slice b5 m5 k5).ownBlock=some j)->S6 j from fun j hj=>by rw[hS6];exact .inr hj);clear hE5 hz3 hz5 hS6 h56 hap;go_wp2_with (at_builtin;refine vw (rSl rEnt) rfl _ _ _ _ _ (.slice none 0 0) 24 rfl Tryz.underlying34 zw9 rfl W.heap.size S6 (.slice a8 (i+1) c8) (vt l (i+1)) rfl HAPP.out _ [([.slice b5 m5 k5],(ixB (stB l (i+1))).all)] rfl (znu _ _) ?_ ?_ ?_ ?_ ?_ ?_;rotate_left 5;intro v6 w6 q1 q2 q3;have HV6:=hid q1;have HG6:=hid q2;have HB6:=hid q3;obtain⟨a6',c6',rfl⟩:=q1.slice;clear q1 q2 q3)
     case refine_1=>
      intro p hp;obtain rfl:=List.mem_singleton.1 hp;exact(RdS.mono (HE5.out.ext ((Ext.refl V5).alloc (.cells #[.slice b5 m5 k5] 47))) fun j hj _=>HSA.out j hj)
     case refine_2=>
      intro k hk;have:=(HSL.out k hk).2.1;simp only[World.size_alloc];omega
     case refine_3=>
      simp only[kq,List.length_singleton];omega
     case refine_4=>
      simp only[kq,List.length_singleton];omega
     case refine_5=>
      have h1:=HKK.out.size;have h2:=HK3.out.size;have h3:=HX5.out.size;simp only[World.size_alloc];omega
     have hn':=HN'.out;have hz3:=HK3.out.size;have hz5:=HX5.out.size;have hzW:=HKK.out.size;have hz6:=HG6.out.size;rw[World.size_alloc]at hz6;have h8 : ∀ j,(Value.slice a8 (i+1) c8).ownBlock=some j->W.heap.size<=j/\j<wr.heap.size/\¬ U3 j/\w.heap.size<=j:=fun j hj=>by
      have h1:=HB.out j (.inr hj);refine⟨h1.1,h1.2.1,fun h=>?_,?_⟩
      ·rcases HU3.out j h with h|h
       ·exact h1.2.2 h
       ·omega
      ·have:=H.out.dev.1.ex.size;omega
     have hst6:StAt w w6 q g ρ3 (N+21000*(i+1)) d3 n3 (stB l (i+1)) U3:=((HST3.out.ext (HX5.out.alloc _)).keep ((zl HG6.out).mono fun j hj _ e=>by
      have h1:=h8 j e.symm;rcases hj with hj|hj
      ·exact h1.2.2.1 hj
      ·omega)).more (by omega)
     have hk6:Keep (fun j=>¬ U j) W w6:=by
      have k1:Keep (fun j=>¬ U j/\j<W.heap.size) W wr:=HKK.out.mono fun j hj _=>hj.1;have k2:=(k1.trans (HK3.out.mono fun j hj _ h=>by
       rcases HUU.out j h with h|h
       ·exact hj.1 h
       ·have:j<W.heap.size:=hj.2;omega)).trans ((HX5.out.alloc (.cells #[.slice b5 m5 k5] 47)).keep _)
      exact(k2.trans ((zl HG6.out).mono fun j hj _ e=>by
       have h1:=(h8 j e.symm).1;have:j<W.heap.size:=hj.2;omega)).mono fun j hj hl=>⟨hj,hl⟩
     have hv6:=HV6.out;simp only[List.map_cons,List.map_nil]at hv6;rw[<-zoa]at hv6;have hlen:(vt l (i+1+1)).length=i+2:=kq _ _;go_roundw;case measure=>simp[intOf];omega
     case rel=>
      refine⟨i+1,by omega,rfl,by go_num,S6,ρ3,d3,n3,U3,hst6,by omega,fun h=>hf3 (HFU.out h),?_,fun j hj=>?_,fun j hj=>?_,hk6⟩
      ·have hl2:(vt l (i+1+1)).length=(vt l (i+1)).length+1:=by rw[kq,kq]
       rw[hl2]at hv6;exact hv6
      ·rcases hj with hj|hj
       ·have h1:=HSL.out j hj;exact⟨h1.1,by omega,h1.2.2⟩
       ·have hj':(Value.slice a6' (vt l (i+1)++List.map (fun x=>x.2) [([Value.slice b5 m5 k5],(ixB (stB l (i+1))).all)]).length c6').ownBlock=some j:=by simpa[Value.ownBlock] using hj
        have h2:=(HV6.out.lt j hj').2;rcases HB6.out j hj' with h|h
        ·have h1:=h8 j h;exact⟨h1.1,h2,h1.2.2.1⟩
        ·rw[World.size_alloc]at h;exact⟨by omega,h2,fun hc=>by have:=(HST3.out.low j hc).2;omega⟩
      ·rcases HU3.out j hj with h|h
       ·exact HUU.out j h
       ·exact .inr (by omega)
    ·have HDN:=hid hdn;clear hdn;go_wp2_with fail;refine bodyPost_ret (v:=.tuple #[.slice a8 (i+1) c8,.bool true]) (by simp[results,Tryz.results8,go_sem]) rfl ?_;have hn':=HN'.out;have hz3:=HK3.out.size;have hzW:=HKK.out.size;refine⟨i,_,Sv,ρ3,d3,n'+1,U3,by omega,rfl,by omega,fun h=>absurd (HFU.out h) hnf,HO.out.kept (HK3.out.mono fun j hj _=>(HB.out j hj).2.2),fun j hj=>?_,fun j hj=>?_,?_,HR3.out,HDN.out.hm.mono (by omega),HDN.out.len,fun s hs=>?_,fun h=>by omega⟩
     ·have h1:=HB.out j hj;refine⟨h1.1,by omega,fun h=>?_⟩;rcases HU3.out j h with h|h
      ·exact h1.2.2 h
      ·omega
     ·rcases HU3.out j hj with h|h
      ·exact HUU.out j h
      ·exact .inr (by omega)
     ·have k1:Keep (fun j=>¬ U j/\j<W.heap.size) W wr:=HKK.out.mono fun j hj _=>hj.1;exact(k1.trans (HK3.out.mono fun j hj _ h=>by
       rcases HUU.out j h with h|h
       ·exact hj.1 h
       ·have:j<W.heap.size:=hj.2;omega)).mono fun j hj hl=>⟨hj,hl⟩
     ·rcases HDN.out.img s hs with h|h
      ·exact .inl h
      ·refine .inr ⟨hlt,?_⟩;rw[<-HAP.out];exact h
  ·have hie:i=l.length:=by omega
   subst hie;have hd:=HST.out.dev;have hn':=HN'.out;go_wp2_with fail;refine bodyPost_ret (v:=.tuple #[.slice a8 (l.length+1) c8,.bool true]) (by simp[results,Tryz.results8,go_sem]) rfl ?_;exact⟨l.length,_,Sv,ρ',d',n',U',Nat.le_refl _,rfl,by omega,fun h=>⟨HFU.out h,rfl⟩,HO.out,HB.out,HUU.out,HKK.out,hd.2.2.2.2.1,hd.1.mono (by omega),hd.2.2.2.1,fun s hs=>.inl (hd.2.2.2.2.2 s hs),fun _=>.inl (HST.out.more (by omega))⟩
end
end
section
open Go.RowKit Go.Maps
section
variable {w W W':World}{q g:Nat}{ρ:Nat->Option DRol}{N:Nat}{d d':Dv}{n:Nat}{bs:List Bat}{U:Nat->Prop}
theorem StAt.fuse (h:StAt w W q g ρ N d n bs U) (hm:Mine w W' g ρ N d') (hu:Up d') (hs:Same d d') (hk:Keep (fun j=>j≠g) W W'):StAt w W' q g ρ N d' n bs U:=by
 obtain⟨gl,C,φ,gf,gc,ga,gm,gt,gn,qn,lv,gs,fv,zv,Sd,gx,T,h⟩:=h;have hg:ρ g≠none:=by
  obtain⟨_,_,_,h1⟩:=hm.dv;rw[h1.rg];simp
 have hgl:gl≠g:=fun e=>hg (e▸h.log.rol);refine⟨gl,C,φ,gf,gc,ga,gm,gt,gn,qn,lv,gs,fv,zv,Sd,gx,T,{ head:=(hk.block q (fun e=>h.qd.1 (.inl (e▸hg))) (blt h.head)).trans h.head,log:= ?_,mem:=h.mem.keep (hk.mono fun j hj _ e=>hg (e▸(h.dis j hj).1)),dis:=h.dis,home:=h.home,seg:=h.seg.keep (hk.mono fun j hj _ e=>(h.segd j hj).1 (.inl (e▸hg))),segd:=h.segd,ix:=h.ix.keep (hk.mono fun j hj _ e=>(h.ixd j hj).1 (.inl (e▸hg))),ixd:=h.ixd,qd:=h.qd,cov:=h.cov,low:=fun j hj=>⟨(h.low j hj).1,Nat.lt_of_lt_of_le (h.low j hj).2 hk.size⟩,good:=h.good }⟩;exact⟨hm,hu,hs.still h.log.st,by rw[hs.safe];exact h.log.len,h.log.log.keep hk hgl,h.log.low,h.log.rol,by
  have h1:=h.log.sp;rw[<-hs.curf]at h1;exact h1⟩
end
theorem zr4 {l:List Adg} (h : ∀ a∈l,∀ e∈a.2.2,evI e) (i:Nat):GoodB (stB l i):=by
 have hh : ∀ (m:List Adg) (bs:List Bat),(∀ a∈m,∀ e∈a.2.2,evI e)->GoodB bs->GoodB (m.foldl zfc bs):=by
  intro m;induction m with
  | nil=>intro bs _ hb;exact hb
  | cons a m ih=>
   intro bs hm hb;exact ih _ (fun x hx=>hm x (List.mem_cons_of_mem _ hx)) (hb.app _ _ _ _ (hm a (List.mem_cons_self ..)))
 exact hh _ _ (fun a ha=>h a (List.mem_of_mem_take ha)) GoodB.nil
theorem ztm {w:World}{S:Nat->Prop}{v:Value}{l:List Adg} (h:RdS rAd w S v l) : ∀ a∈l,∀ e∈a.2.2,evI e:=by
 intro a ha;obtain⟨i,hi,rfl⟩:=List.getElem_of_mem ha;obtain⟨g,o,cap,lv,-,-,-,-,-,-,-,-,h2⟩:=h.atAd i hi;exact zm3 h2
theorem RdS.atEs {w:World}{S:Nat->Prop}{v:Value}{xs:List (List Ent)} (h:RdS (rSl rEnt) w S v xs) (i:Nat) (hi:i<xs.length) :
  ∃ g o cap u,v = .slice (some ⟨g,o,none⟩) xs.length cap/\g<w.heap.size/\S g/\w.cell? ⟨g,o+i,none⟩=some u/\RdS rEnt w S u xs[i]:=by
 obtain⟨g,o,cap,cs,rfl,hg,hS,_,hc,hr⟩:=h.at i hi;obtain⟨u,gs,rfl,h1⟩:=id hr;have h2:=hc 0 u rfl;rw[show o+(i*(rSl rEnt).size+0)=o+i by show o+(i*1+0)=o+i;omega]at h2;exact⟨g,o,cap,u,rfl,hg,hS,h2,hr⟩
end
section
open Go.ChangeShapes Go.WideShapes Go.ChangeAt Go.RowKit Go.Deep
theorem zil:Opens rI bOne 3:=zmy Tryz.underlying3 (by kernel_rfl)
theorem zbb:Opens rS bS 9:=zvd Tryz.underlying9 (by kernel_rfl)
theorem zn7:Opens rBo bOne 4:=zsr Tryz.underlying4 (by kernel_rfl)
theorem zve:Opens rF (bSt (bP bS (bP bOne (bP bOne bS)))) 120:=
 zf7 Tryz.underlying120 (by kernel_rfl) (ve zbb rfl rfl (ve zn7 rfl rfl (ve zil rfl rfl (zc2 zbb rfl rfl))))
theorem zsp:Opens (rSl rF) (bL (bSt (bP bS (bP bOne (bP bOne bS))))) 56:=zfi zve Tryz.underlying56 (by kernel_rfl) (by decide)
def bEv:Ev->Nat:=bSt (bP bS (bP bOne (bL (bSt (bP bS (bP bOne (bP bOne bS)))))))
theorem zvf:Opens rE bEv 58:=
 zf7 Tryz.underlying58 (by kernel_rfl) (ve zbb rfl rfl (ve zil rfl rfl (zc2 zsp rfl rfl)))
theorem zsq:Opens (rSl rE) (bL bEv) 30:=zfi zvf Tryz.underlying30 (by kernel_rfl) (by decide)
section
variable {H:Type}{enc:TypeId × Value->H}{W:World}{base:Nat}{v:Value}{d:DataW H}{ps:List MemPlace}
end
end
section
open Go.ChangeShapes Go.WideShapes Go.ChangeAt Go.RowKit Go.Deep
theorem zss:Opens rAd (bSt (bP bS (bP bS (bL bEv)))) 32:=
 zf7 Tryz.underlying32 (by kernel_rfl) (ve zbb rfl rfl (ve zbb rfl rfl (zc2 zsq rfl rfl)))
theorem zqc:Opens (rSl rAd) (bL (bSt (bP bS (bP bS (bL bEv))))) 22:=zfi zss Tryz.underlying22 (by kernel_rfl) (by decide)
theorem zv0 {H:Type}{enc:TypeId × Value->H}{W:World}{base:Nat}{v:Value}{d:DataW H}{ps:List MemPlace} (hval:Value.okWide Tryz.prog W .any base 22 v) (hr : ∃ fuel,DataW.trod enc Tryz.prog W 0 (fun _=>true) true fuel 22 v.cells.toList=some (d,ps)) :
  ∃ xs,RdS rAd W (fun k=>k<W.heap.size) v xs/\True:=by
 obtain⟨xs,h1,_⟩:=zuf zqc Tryz.underlying22 hval hr;exact⟨xs,h1,trivial⟩
end
end Go.Proofs.YtnadlnmclameiaaGreatDoor
