/- Layer 20: (*gather).add of a monomial that is there; the whole. -/
import Derived.Test.YtopddaabiinboaaGreatMp10
import Derived.Shelf.SlSortCmp.WholeK
set_option linter.unusedSimpArgs false
set_option linter.unusedVariables false
set_option maxRecDepth 100000
set_option maxHeartbeats 8000000
namespace Go.Proofs.YtopddaabiinboaaGreat
open Go.RowKit
theorem uit {base G M:Nat} {v:Value} {l:Sp} {w:World} (h:GaV base w G M v l) (m:Mo) (x:Value) (L:Nat) (z:Int) (hc:xc4 w x z L) (hm:m.nonneg) (hb:base<=w.heap.size) (k:Nat) (hk:k < l.length) (hL:L+(dg l[k].1.natAbs).length<=35184372088000) (hlen:l.length < 1099511627776) (hn:mog (zdf 0 l) m=some (.int .i64 (0+k:Nat))) (hlk:l[k].2=m) (hge:zdf 0 (l.set k (l[k].1+z,m))=zdf 0 l):Calls Tryz.prog 91 #[.pointer (some ⟨G,0,none⟩),moV m,x] w (wgz base G M v (l.set k (l[k].1+z,m)) w):=by
 have HC:=Lib.hid hc;obtain ⟨b,B,n,c,rfl⟩:=hc.unpack;have HQ:Hid (decide (¬ m.nonneg)=false):=by
  have:decide (¬ m.nonneg)=false:=decide_eq_false (fun h=>h hm);exact this
 have H:=Lib.hid h;obtain ⟨W,hW⟩:=n_m ((w.alloc (.cells #[.int .i64 m.a,.int .i64 m.b,.int .i64 m.c,.int .i64 m.d] 114)).alloc (.cells #[.bool b,.slice B n c] 27));have hWx:Ext w W:=by rw [<- hW]; exact ((Ext.refl w).alloc _).alloc _
 have hWs:W.heap.size=w.heap.size+1+1:=by rw [<- hW]; simp
 have hmx:vc9 W w.heap.size m:=by rw [<- hW]; exact (vc9.new w m _).ext ((Ext.refl _).alloc _) (by simp)
 have hc0:W.cell? ⟨w.heap.size+1,0,none⟩=some (.bool b):=by rw [<- hW]; simp [go_sem]
 have hc1:W.cell? ⟨w.heap.size+1,1,none⟩=some (.slice B n c):=by rw [<- hW]; simp [go_sem]
 obtain ⟨d0,d1,d2,d3⟩:=id hmx;have HMX:=Lib.hid hmx;have HC0:=Lib.hid hc0;have HC1:=Lib.hid hc1;have HWX:=Lib.hid hWx;have HN:=Lib.hid hn;have HLK:=Lib.hid hlk;have HGE:=Lib.hid hge;clear h hc hWx hmx hn hc0 hc1 hlk hge;unfold moV;go_enter Tryz.func91,Tryz.ntmps91;go_wp2_with fail;refine (kg2 m W).mono ?_;rintro e w1 ⟨rfl,x1⟩;rw [HQ.out];have h1:=H.out.ext (HWX.out.trans x1);have hw1:=x1.size;obtain ⟨d0,d1,d2,d3⟩:=HMX.out.ext x1 (by omega);have c0:=(x1.cell (p:=⟨w.heap.size+1,0,none⟩) (by show w.heap.size+1 < _; omega)).trans HC0.out;have c1:=(x1.cell (p:=⟨w.heap.size+1,1,none⟩) (by show w.heap.size+1 < _; omega)).trans HC1.out;have X1:=Lib.hid (HWX.out.trans x1);obtain ⟨g0,g1,gf,gm,gt,⟨gb1,gb2,gne,glt⟩,gown⟩:=h1;have hlook:=xdf.look (w:=w1.drew) gm m true;rw [HN.out] at hlook;simp only [Option.getD_some,Option.isSome_some,if_true,moV,Nat.zero_add] at hlook;obtain ⟨At,ct,rfl,-,-⟩:=gt.len;have hsp:=gt.sp;obtain ⟨A',c',e',-,-,hat⟩:=hsp;injection e' with e1 e2 e3
 subst e1 e3;obtain ⟨ad,b1,B1,n1,c2,rfl,hadb,htm,hcf⟩:=hat k hk;obtain ⟨rs,hrs,hgr,hrc⟩:=id gt;have hrl:rs.length=l.length:=by rw [<- hrs,List.length_map]
 rw [hrl] at hgr;obtain ⟨R,cR,eR,-,-,hbR,hltR,hfrR⟩:=hgr.pos (by omega);injection eR with eR1 eR2 eR3
 injection eR1 with eR1
 subst eR1;have hRne:=gown R rfl;rw [zc9,Nat.zero_add] at htm;obtain ⟨t0,t1,-⟩:=htm;simp only at t0 t1;have GM:=Lib.hid gm;have GT:=Lib.hid gt;have GOWN:=Lib.hid gown;have HCF:=Lib.hid hcf;clear gm gt gown x1 hW hgr hrc hrs hcf hat;go_upto_region 2 with fail
 go_region
 all_goals
  clear hlook d0 d1 d2 d3;have HSTEP:Hid (∀ (w3:World) (x3:Value),kdb w3 x3 (l[k].1+z)->Ext w1.drew.drew w3->∃ A3 n3 c3,x3=.agg #[.bool (decide (l[k].1+z < 0)),.slice A3 n3 c3]/\(w3.cell? ⟨G,0,none⟩=some (.map (some M))/\w3.cell? ⟨G,1,none⟩=some (.slice (some ⟨R,0,none⟩) l.length ct))/\(w3.cell? ⟨R,k * 6,none⟩=some (.bool b1)/\w3.cell? ⟨R,k * 6+1,none⟩=some (.slice B1 n1 c2)/\(∀ i,w3.frozen? ⟨R,i,none⟩=false))/\wgz base G M (.slice (some ⟨R,0,none⟩) l.length ct) (l.set k (l[k].1+z,m)) w (.returned (.tuple #[])) ((w3.setCell ⟨R,k * 6,none⟩ (.bool (decide (l[k].1+z < 0)))).setCell ⟨R,k * 6+1,none⟩ (.slice A3 n3 c3))):=by
   intro w3 x3 n3 y3;obtain ⟨s3,rfl,nv⟩:=id n3;obtain ⟨A3,c3,rfl,-⟩:=id nv;have y3':Ext w1 w3:=Ext.trans (((Ext.refl w1).drew).drew) y3;have hs3:=y3'.size;have ev:∀ bb i,bb < w1.heap.size->w3.cell? ⟨bb,i,none⟩=w1.cell? ⟨bb,i,none⟩:=fun bb i h=>y3'.cell (p:=⟨bb,i,none⟩) h
   refine ⟨A3,_,c3,rfl,⟨(ev G 0 glt).trans g0,(ev G 1 glt).trans g1⟩,⟨(ev R _ hltR).trans t0,(ev R _ hltR).trans t1,fun i=>(y3'.frozen (p:=⟨R,i,none⟩) hltR).trans (hfrR i)⟩,?_⟩;obtain ⟨ts,tn⟩:=(GT.out.ext y3').set_ k hk (b:=decide (l[k].1+z < 0)) (A:=A3) (d:=c3) n3;rw [HLK.out] at ts;refine ⟨rfl,.slice (some ⟨R,0,none⟩) l.length ct,⟨?_,?_,fun i=>?_,?_,?_,⟨gb1,gb2,gne,?_⟩,GOWN.out⟩,?_,fun x ds hx=>tn x ds ((hx.ext X1.out).ext y3'),fun b h1 h2 h3 h4=>?_,.inl rfl⟩
   · rw [World.cell?_setCell_other _ _ _ _ (by intro e; injection e with e; exact hRne.1 e),World.cell?_setCell_other _ _ _ _ (by intro e; injection e with e; exact hRne.1 e)]; exact (ev G 0 glt).trans g0
   · rw [World.cell?_setCell_other _ _ _ _ (by intro e; injection e with e; exact hRne.1 e),World.cell?_setCell_other _ _ _ _ (by intro e; injection e with e; exact hRne.1 e)]; exact (ev G 1 glt).trans g1
   · rw [World.frozen?_setCell,World.frozen?_setCell]; exact (y3'.frozen (p:=⟨G,i,none⟩) glt).trans (gf i)
   · rw [HGE.out];exact (GM.out.ext y3').block ((Below.heap_setCell _ _ _ M (fun e=>hRne.2 e.symm)).trans (Below.heap_setCell _ _ _ M (fun e=>hRne.2 e.symm)))
   · have:(l.set k (l[k].1+z,m)).length=l.length:=List.length_set;exact ts
   · simp only [World.setCell,Array.size_modify]; omega
   · exact Below.setCell (Below.setCell (Below.mono (X1.out.trans y3') hb) hbR _) hbR _
   · have hbR':b ≠ R:=fun e=>h4 (by rw [e]; rfl)
     exact ((Below.heap_setCell _ _ _ b hbR').trans (Below.heap_setCell _ _ _ b hbR')).trans ((X1.out.trans y3').below.block b h1)
  have hnew:∀ w3 x3,kdb w3 x3 (l[k].1+z)->Ext w1.drew.drew w3->True:=fun _ _ _ _=>trivial
  have HARG1:=Lib.hid (HCF.out.ext (((Ext.refl w1).drew).drew));have HARG2:=Lib.hid (HC.out.ext (X1.out.trans (((Ext.refl w1).drew).drew)));have hq:(⟨R,0,none⟩:Addr).add (k * 6)=⟨R,k * 6,none⟩:=by rw [zc9,Nat.zero_add]
  clear GM GT GOWN HCF HC HGE HLK HN HWX X1 HMX HC0 HC1 H;go_upto_region 4 with fail
  go_region_law (first
   | (go_simp
      go_at_call 89
      refine (qhd _ _ (l[k].1) z _ L _ (kdb.raw HARG1.out) HARG2.out (by omega)).mono ?_;rintro e w3 ⟨x3,rfl,n3,y3⟩;obtain ⟨A3,n3',c3,rfl,⟨G0,G1⟩,⟨T0,T1,TF⟩,hfin⟩:=HSTEP.out _ _ n3 y3;have HFIN:=Lib.hid hfin
      clear n3 y3 hfin))
  all_goals
   clear G0 G1 T0 T1 TF;go_wp2_with fail;exact bodyPost_ret (results_none rfl _ _ _) rfl HFIN.out
theorem yiu {base G M:Nat} {v:Value} {l:Sp} {w:World} (h:GaV base w G M v l) (m:Mo) (x:Value) (L:Nat) (z:Int) (hc:xc4 w x z L) (hb:base<=w.heap.size) (hL:L+(dg (yc4 l)).length<=35184372088000) (hlen:l.length < 1099511627776):Calls Tryz.prog 91 #[.pointer (some ⟨G,0,none⟩),moV m,x] w (wgz base G M v (if m.nonneg then wdd z m l else l) w):=by
 by_cases hm:m.nonneg
 · rw [if_pos hm];rcases xib z m l 0 with ⟨h1,h2,h3⟩ | ⟨k,hk,h1,h2,h3,h4⟩
   · rw [h2]; exact git h m x L z hc (by omega) hm hb hlen h1 h3
   · rw [h3];have hd:=xc6 (ght (List.getElem_mem hk));exact uit h m x L z hc hm hb k hk (by omega) hlen h1 h2 h4
 · rw [if_neg hm]; exact ziu h m x (some L) z hc hm hb
/- The library's sort at terms: the kit's contract of slices.pdqsortCmpFunc laid at this program. (The lines of sortTm are those that the kit's laying command writes.) -/
def kg0:Go.Shelf.Ren:=⟨fun | 14=>172 | 20=>208 | 21=>209 | 22=>210 | 23=>211 | 24=>212 | 25=>213 | 26=>214 | 27=>215 | 46=>245 | 47=>246 | 48=>247 | 49=>248 | 50=>249 | 15=>173 | 57=>257 | 28=>216 | 29=>217 | n=>n,fun | 24=>165 | 22=>109 | 3=>3 | 25=>217 | 4=>4 | 0=>0 | 46=>281 | 45=>280 | 50=>135 | 66=>311 | 39=>121 | 55=>77 | 70=>315 | 76=>324 | 77=>325 | 53=>61 | 5=>5 | 9=>9 | n=>n,fun | n=>n⟩
theorem sortTm : Go.Proofs.SlLaysF0.n14 Tryz.prog kg0 := {
 mixed:=by kernel_rfl,
 f14:=⟨Tryz.f172.name,by decide,Tryz.func172.trans (congrArg some (by kernel_rfl))⟩,
 f15:=Tryz.func173.trans (congrArg some (by kernel_rfl)),
 f20:=⟨Tryz.f208.name,by decide,Tryz.func208.trans (congrArg some (by kernel_rfl))⟩,
 f21:=⟨Tryz.f209.name,by decide,Tryz.func209.trans (congrArg some (by kernel_rfl))⟩,
 f22:=⟨Tryz.f210.name,by decide,Tryz.func210.trans (congrArg some (by kernel_rfl))⟩,
 f23:=⟨Tryz.f211.name,by decide,Tryz.func211.trans (congrArg some (by kernel_rfl))⟩,
 f24:=⟨Tryz.f212.name,by decide,Tryz.func212.trans (congrArg some (by kernel_rfl))⟩,
 f25:=⟨Tryz.f213.name,by decide,Tryz.func213.trans (congrArg some (by kernel_rfl))⟩,
 f26:=⟨Tryz.f214.name,by decide,Tryz.func214.trans (congrArg some (by kernel_rfl))⟩,
 f27:=⟨Tryz.f215.name,by decide,Tryz.func215.trans (congrArg some (by kernel_rfl))⟩,
 f28:=Tryz.func216.trans (congrArg some (by kernel_rfl)),
 f29:=Tryz.func217.trans (congrArg some (by kernel_rfl)),
 f46:=⟨Tryz.f245.name,by decide,Tryz.func245.trans (congrArg some (by kernel_rfl))⟩,
 f47:=Tryz.func246.trans (congrArg some (by kernel_rfl)),
 f48:=Tryz.func247.trans (congrArg some (by kernel_rfl)),
 f49:=⟨Tryz.f248.name,by decide,Tryz.func248.trans (congrArg some (by kernel_rfl))⟩,
 f50:=⟨Tryz.f249.name,by decide,Tryz.func249.trans (congrArg some (by kernel_rfl))⟩,
 f57:=⟨Tryz.f257.name,by decide,Tryz.func257.trans (congrArg some (by kernel_rfl))⟩,
 t0:=Tryz.underlying0,
 a0:=Tryz.isAgg0,
 z0:=Tryz.sizeOf0,
 v0:=Tryz.zeroValue0,
 t3:=Tryz.underlying3,
 a3:=Tryz.isAgg3,
 z3:=Tryz.sizeOf3,
 v3:=Tryz.zeroValue3,
 t4:=Tryz.underlying4,
 a4:=Tryz.isAgg4,
 z4:=Tryz.sizeOf4,
 v4:=Tryz.zeroValue4,
 t5:=Tryz.underlying5,
 a5:=Tryz.isAgg5,
 z5:=Tryz.sizeOf5,
 v5:=Tryz.zeroValue5,
 t9:=Tryz.underlying9,
 a9:=Tryz.isAgg9,
 z9:=Tryz.sizeOf9,
 v9:=Tryz.zeroValue9,
 t22:=Tryz.underlying109,
 a22:=Tryz.isAgg109,
 z22:=Tryz.sizeOf109,
 v22:=Tryz.zeroValue109,
 t25:=Tryz.underlying217,
 a25:=Tryz.isAgg217,
 z25:=Tryz.sizeOf217,
 v25:=Tryz.zeroValue217,
 t39:=Tryz.underlying121,
 a39:=Tryz.isAgg121,
 z39:=Tryz.sizeOf121,
 v39:=Tryz.zeroValue121,
 t45:=Tryz.underlying280,
 a45:=Tryz.isAgg280,
 z45:=Tryz.sizeOf280,
 v45:=Tryz.zeroValue280,
 t46:=Tryz.underlying281,
 a46:=Tryz.isAgg281,
 z46:=Tryz.sizeOf281,
 v46:=Tryz.zeroValue281,
 t50:=Tryz.underlying135,
 a50:=Tryz.isAgg135,
 z50:=Tryz.sizeOf135,
 v50:=Tryz.zeroValue135,
 t53:=Tryz.underlying61,
 a53:=Tryz.isAgg61,
 z53:=Tryz.sizeOf61,
 v53:=Tryz.zeroValue61,
 t55:=Tryz.underlying77,
 a55:=Tryz.isAgg77,
 z55:=Tryz.sizeOf77,
 v55:=Tryz.zeroValue77,
 t66:=Tryz.underlying311,
 a66:=Tryz.isAgg311,
 z66:=Tryz.sizeOf311,
 v66:=Tryz.zeroValue311,
 t70:=Tryz.underlying315,
 a70:=Tryz.isAgg315,
 z70:=Tryz.sizeOf315,
 v70:=Tryz.zeroValue315,
 t76:=Tryz.underlying324,
 a76:=Tryz.isAgg324,
 z76:=Tryz.sizeOf324,
 v76:=Tryz.zeroValue324,
 t77:=Tryz.underlying325,
 a77:=Tryz.isAgg325,
 z77:=Tryz.sizeOf325,
 v77:=Tryz.zeroValue325 }
theorem uiy:Go.Proofs.SlLaysF0.n15 Tryz.prog kg0:={ sortTm with }
/- The library's sort at terms: slices.SortFunc with the order of (*gather).poly: descending monomials. -/
set_option maxRecDepth 100000
set_option maxHeartbeats 8000000
open Go.Sort Go.Shelf
structure TmE where
 neg:Bool
 A:Option Addr
 n:Nat
 c:Nat
 z:Int
 mo:Mo
instance:Inhabited TmE:=⟨⟨false,none,0,0,0,Mo.one⟩⟩
def TmE.enc (x:TmE):List Value:=tmC x.neg (.slice x.A x.n x.c) x.mo
def ygz (x y:TmE):Int:=gg8 y.mo x.mo
theorem wg6 (x y:TmE):ltOf ygz x y=decide (y.mo.lt x.mo):=by
 unfold ltOf ygz gg8
 by_cases h1:y.mo.lt x.mo
 · rw [if_pos h1]; simp [h1]
 · rw [if_neg h1]
   by_cases h2:x.mo.lt y.mo
   · rw [if_pos h2]; simp [h1]
   · rw [if_neg h2]; simp [h1]
theorem viw : SWO (ltOf ygz) where
 irrefl x:=by rw [wg6]; simp [Mo.lt_irrefl]
 trans x y z h1 h2:=by
  rw [wg6] at *;simp only [decide_eq_true_eq] at *;exact Mo.lt_trans h2 h1
 ntrans x y z h1 h2:=by
  rw [wg6] at *;simp only [decide_eq_false_iff_not] at *;unfold Mo.lt at *; omega
theorem wh1 (x y:TmE) (W:World):Calls Tryz.prog 129 #[.agg x.enc.toArray,.agg y.enc.toArray] W fun e w'=>e=.returned (.int .i64 (ygz x y))/\∃ q os',w'=grow (W.drewN q) os':=by
 unfold ygz TmE.enc tmC;have hcon:=fun W'=>ghk y.mo x.mo W'
 generalize gg8 y.mo x.mo=r at hcon ⊢;have HC:=Lib.hid hcon;have HG:Hid (∀ o o' q os,∃ q' os',grow (((W.alloc o).alloc o').drewN q) os=grow (W.drewN q') os'):=fun o o' q os=>⟨q,#[o] ++ #[o'] ++ os,by rw [alloc_eq_grow,alloc_eq_grow,grow_grow,<- grow_grow _ _ os]; rfl⟩
 clear hcon;go_enter Tryz.func129,Tryz.ntmps129;go_wp2_with fail;refine (HC.out _).mono ?_;rintro e w1 ⟨rfl,q,os,rfl⟩;go_wp2_with fail;go_ret;exact ⟨rfl,HG.out _ _ q os⟩
theorem qhv (blk off size:Nat) (w:World):CmpLays Tryz.prog 129 #[] TmE.enc 6 ygz blk off size w:=fun _ _ _ _ x y=>wh1 x y _
theorem yh3 (v:Value) (w:World):Calls Tryz.prog 208 #[v,.int .i64 0,.int .i64 0,.func (.func 129) #[] #[]] w fun e w'=>e=.returned (.tuple #[])/\w'=w:=by
 go_enter Tryz.func208,Tryz.ntmps208;go_wp2_with fail;refine wp_loop_rounds 1 ?_;rw [rounds_succ];go_wp2_with fail
 go_end0
 exact ⟨rfl,rfl⟩
theorem whf (n:Nat) (w:World) (h:n < 4611686018427387904):Calls Tryz.prog 173 #[.int .u64 (n:Int)] w fun e w'=>e=.returned (.int .i64 (Lib.bitLen n:Nat))/\w'=w:=by
 have h:=Go.Proofs.Any.bits_Len (Go.Proofs.SlLaysF0.n15.bits (P:=Tryz.prog) (ρ:=kg0) uiy) (n:Int) w (by omega) (by omega)
 rwa [Int.toNat_natCast] at h
theorem yh2 (v:Value) (limit:Int) (w:World):Calls Tryz.prog 172 #[v,.int .i64 0,.int .i64 0,.int .i64 limit,.func (.func 129) #[] #[]] w fun e w'=>e=.returned (.tuple #[])/\w'=w:=by
 go_enter Tryz.func172,Tryz.ntmps172;go_wp2_with fail;refine wp_loop_rounds 1 ?_;rw [rounds_succ];go_wp2_with fail;refine (yh3 _ _).mono ?_;rintro e w1 ⟨rfl,rfl⟩;go_wp2_with fail;exact bodyPost_ret (results_none rfl _ _ _) rfl ⟨rfl,rfl⟩
theorem uht (A:Option Addr) (c:Nat) (w:World):Calls Tryz.prog 128 #[.slice A 0 c,.func (.func 129) #[] #[]] w fun e w'=>e=.returned (.tuple #[])/\w'=w:=by
 have wr:IntKind.u64.wrap (0:Int)=0:=by decide
 have hb:=whf 0 w (by omega);have HB:=Lib.hid hb;clear hb;go_enter Tryz.func128,Tryz.ntmps128;go_wp2_with fail;refine HB.out.mono ?_;rintro e w1 ⟨rfl,rfl⟩;go_wp2_with fail;refine (yh2 _ _ _).mono ?_;rintro e w1 ⟨rfl,rfl⟩;go_wp2_with fail
 go_end0
 exact ⟨rfl,rfl⟩
theorem zh1 (blk cap:Nat) (d:Array TmE) (w:World) (hH:HoldsK TmE.enc 6 w blk 0 d) (hblk:blk < w.heap.size) (hsz:d.size < 4611686018427387904) :
 Calls Tryz.prog 128 #[.slice (some ⟨blk,0,none⟩) d.size cap,.func (.func 129) #[] #[]] w fun e w'=>e=.returned (.tuple #[])/\∃ d' n os,PermIn 0 d.size d d'/\SortedIn (ltOf ygz) 0 d.size d'/\w'=sortWorldK TmE.enc 6 w blk 0 n d' os:=by
 have hlim:Lib.bitLen d.size < 4611686018427387904:=Nat.lt_of_le_of_lt (Lib.bitLen_le d.size 62 (by omega) (by omega)) (by omega);have eg:∀ args w,(callFunc 129 args).run Tryz.prog w=.ok (.enter 129 args) w:=enters_of Tryz.func129 (by kernel_rfl) rfl;have hp:=Go.Proofs.AnyQ.pdqsortCmpFunc_all (P:=Tryz.prog) (ρ:=kg0) sortTm 6 Tryz.isAgg165 Tryz.sizeOf165 TmE.enc ygz 129 #[] viw blk 0 cap d w eg (qhv blk 0 d.size w) ⟨fun _=>rfl,fun x v hv=>by
  simp only [TmE.enc,tmC,List.mem_cons,List.not_mem_nil,or_false] at hv
  rcases hv with rfl | rfl | rfl | rfl | rfl | rfl <;> rfl,hH,hblk⟩ (d.size+1) 0 d.size (Lib.bitLen d.size) d w (by omega) rfl (Go.Proofs.SWK.start hH) (Nat.zero_le _) (Nat.le_refl _) hsz hlim (Or.inl rfl)
 have hs:=pdq_sorts (ltOf ygz) viw d 0 d.size (Lib.bitLen d.size) true true (Nat.zero_le _) (Nat.le_refl _) (Or.inl rfl);generalize pdq (ltOf ygz) d 0 d.size (Lib.bitLen d.size) true true=d' at hp hs
 change Calls Tryz.prog 172 _ _ _ at hp
 have HP:=Lib.hid hp;have HS:=Lib.hid hs;have HB:=Lib.hid (whf d.size w hsz);have wr:IntKind.u64.wrap (d.size:Int)=d.size:=by simp [IntKind.wrap,IntKind.bits,IntKind.signed]; omega
 clear hH hp hs eg;go_enter Tryz.func128,Tryz.ntmps128;go_wp2_with fail;refine HB.out.mono ?_;rintro e w1 ⟨rfl,rfl⟩;go_wp2_with fail;refine HP.out.mono ?_;rintro e w1 ⟨rfl,n,os,rfl⟩;go_wp2_with fail
 go_end0
 exact ⟨rfl,d',n,os,HS.out.1,HS.out.2,rfl⟩
def TmE.pair (x:TmE):Int × Mo:=(x.z,x.mo)
theorem kh3 (d:Array TmE) (j:Nat) (hj:j < d.size * 6):(flatK TmE.enc 6 d)[j]! = (tmC d[j / 6]!.neg (.slice d[j / 6]!.A d[j / 6]!.n d[j / 6]!.c) d[j / 6]!.mo)[j % 6]! := by
 rw [get_flatK _ _ _ _ hj]; rfl
def SpO (base:Nat) (w:World) (v:Value) (l:Sp):Prop:=SpV w none v l/\(0 < l.length->∃ g c,v=.slice (some ⟨g,0,none⟩) l.length c/\base<=g/\g < w.heap.size/\∀ i,i < l.length * 6->w.frozen? ⟨g,i,none⟩=false)
theorem yio {base:Nat} {W:World} {v:Value} {l:Sp} (h:TsV none base W v l) (hlen:l.length<=1099511627776):Calls Tryz.prog 128 #[v,.func (.func 129) #[] #[]] W fun e w'=>e=.returned (.tuple #[])/\∃ l':Sp,l'.Perm l/\(∀ i j (hi:i < l'.length) (hj:j < l'.length),i < j->¬ (l'[i].2).lt l'[j].2)/\SpO base w' v l'/\Below base W w'/\W.heap.size<=w'.heap.size:=by
 obtain ⟨Av,cv,rfl,hl1,hl2⟩:=h.len
 by_cases h0:l=[]
 · subst h0;refine (uht _ _ _).mono ?_;rintro e w' ⟨he,rfl⟩;exact ⟨he,[],List.Perm.refl _,fun i j hi=>absurd hi (by simp),⟨⟨Av,cv,rfl,hl1,hl2,fun i hi=>absurd hi (by simp)⟩,fun h=>absurd h (by simp)⟩,Below.refl _ _,Nat.le_refl _⟩
 have hpos:0 < l.length:=List.length_pos_iff.2 h0;obtain ⟨rs,rfl,hg,hcf⟩:=h;rw [List.length_map] at hpos hl1 hlen;rw [List.length_map] at hg;rw [List.length_map];obtain ⟨g,c',e,-,-,hbg,hglt,hfr⟩:=hg.pos hpos;injection e with e1 e2 e3
 subst e1 e3;have hun:∀ r ∈ rs,∃ A n c,r.2.1=.slice A n c:=fun r hr=>by
  obtain ⟨b,A,n,c,e⟩:=(hcf r hr).unpack;simp only [Value.agg.injEq,Array.mk.injEq,List.cons.injEq,and_true] at e;exact ⟨A,n,c,e.2⟩
 obtain ⟨es,hes⟩:∃ es:List TmE,es.map (fun x=>(x.neg,Value.slice x.A x.n x.c,x.z,x.mo))=rs:=by
  clear hcf hg hpos hl1 hlen h0 e2
  induction rs with
  | nil=>exact ⟨[],rfl⟩
  | cons r rs ih =>
    obtain ⟨es,he⟩:=ih (fun r hr=>hun r (by simp [hr]));obtain ⟨A,n,c,e⟩:=hun r (by simp);obtain ⟨b,s,z,m⟩:=r;simp only at e;subst e;exact ⟨⟨b,A,n,c,z,m⟩ :: es,by simp [he]⟩
 have hel:es.length=rs.length:=by rw [<- hes,List.length_map]
 have hgetr:∀ i (hi:i < es.length),rs[i]'(by omega)=(es[i].neg,Value.slice es[i].A es[i].n es[i].c,es[i].z,es[i].mo):=fun i hi=>by
  simp only [<- hes,List.getElem_map]
 have hH:HoldsK TmE.enc 6 W g 0 es.toArray:=by
  intro j hj;rw [size_flatK] at hj;simp only [List.size_toArray] at hj;have hq:j / 6 < es.length:=Nat.div_lt_of_lt_mul (by omega);have hc:=hg.cell j (by omega);have hm:j % 6 < 6:=Nat.mod_lt _ (by omega);have hj2:j / 6 * 6+j % 6=j:=by omega
  have hf:=gg3 rs (j / 6) (by omega) (j % 6) hm;rw [hj2] at hf;rw [hf,hgetr _ hq] at hc;refine ⟨?_,hfr _⟩;rw [Nat.zero_add,hc,kh3 _ _ (by simpa using hj)];have hgt:es.toArray[j / 6]! = es[j / 6]:=by rw [getElem!_pos es.toArray (j / 6) (by simpa using hq)]; simp
  rw [hgt];have hlt:j % 6 < (tmC es[j / 6].neg (.slice es[j / 6].A es[j / 6].n es[j / 6].c) es[j / 6].mo).length:=hm;rw [List.getElem?_eq_getElem hlt,getElem!_pos (tmC es[j / 6].neg (.slice es[j / 6].A es[j / 6].n es[j / 6].c) es[j / 6].mo) (j % 6) hlt]
  rfl
 have hcall:=zh1 g cv es.toArray W hH hglt (by simp; omega);simp only [List.size_toArray] at hcall;rw [hel] at hcall;refine hcall.mono ?_;rintro e w' ⟨he,d',n,os,⟨hsz,-,hperm⟩,hsort,rfl⟩;simp only [List.size_toArray] at hsz;have hperm':d'.toList.Perm es:=by
  rw [Array.extract_eq_self_of_le (by omega)] at hperm;have:es.toArray.extract 0 rs.length=es.toArray:=Array.extract_eq_self_of_le (by simp; omega);rw [this] at hperm;simpa using hperm
 have hgrow:W.grownBy (sortWorldK TmE.enc 6 W g 0 n d' os) (some g):=by
  refine ⟨rfl,rfl,rfl,?_,fun b hb hne=>?_⟩
  · simp [sortWorldK,grow,putRowK,putRow,mapBlock,Go.Sort.ahead]
  · have hne':¬ g=b:=fun e=>hne (by rw [e])
    simp [sortWorldK,grow,putRowK,putRow,mapBlock,Go.Sort.ahead,Array.getElem?_append,hb,Array.getElem_modify,hne']
 have hnat:∀ v ds,vc2 W v ds->vc2 (sortWorldK TmE.enc 6 W g 0 n d' os) v ds:=fun v ds hv=>zhj hv (v:=.slice (some ⟨g,0,none⟩) rs.length cv) hgrow hg.2 (qhf hg.1)
 have hH':HoldsK TmE.enc 6 (sortWorldK TmE.enc 6 W g 0 n d' os) g 0 d':=
  holdsK_grow TmE.enc 6 _ os g 0 d' (by simp only [putRowK,size_putRow]; exact hglt) (holdsK_putRowK TmE.enc 6 (Go.Sort.ahead W n) g 0 es.toArray d' (holdsK_ahead TmE.enc 6 W n g 0 es.toArray hH) (by simpa using hsz))
 refine ⟨he,d'.toList.map TmE.pair,?_,?_,?_,?_,?_⟩
 · have h1:=hperm'.map TmE.pair;have h2:es.map TmE.pair=rs.map (fun r=>r.2.2):=by rw [<- hes,List.map_map]; rfl
   rw [<- h2]; exact h1
 · intro i j hi hj hij;rw [List.length_map,Array.length_toList] at hi hj;have:=hsort i j (Nat.zero_le _) hij (by omega);rw [wg6,decide_eq_false_iff_not] at this;simp only [List.getElem_map,Array.getElem_toList];rw [getElem!_pos d' i hi,getElem!_pos d' j hj] at this;exact this
 · have hld:(d'.toList.map TmE.pair).length=rs.length:=by rw [List.length_map,Array.length_toList]; omega
   refine ⟨⟨some ⟨g,0,none⟩,cv,by rw [hld],by omega,hl2,fun i hi=>?_⟩,fun _=>⟨g,cv,by rw [hld],hbg,Nat.lt_of_lt_of_le hglt hgrow.size,fun i hi=>?_⟩⟩;rotate_left
   · rw [hld] at hi;have h1:=(HoldsK.cell hH' (show i / 6 < d'.size from Nat.div_lt_of_lt_mul (by omega)) (Nat.mod_lt i (show 0 < 6 by omega))).2;rw [show 0+i / 6 * 6+i % 6=i by omega] at h1;exact h1
   rw [List.length_map,Array.length_toList] at hi;have hcell:=fun c (hc:c < 6)=>(HoldsK.cell hH' hi hc).1
   simp only [Nat.zero_add] at hcell;have hmem:d'[i]! ∈ es:=hperm'.mem_iff.1 (by rw [getElem!_pos d' i hi]; simp);obtain ⟨k,hk,hke⟩:=List.getElem_of_mem hmem;have hcfk:=hcf rs[k] (List.getElem_mem (by omega));rw [hgetr k hk,hke] at hcfk;have hpi:(d'.toList.map TmE.pair)[i]'(by rw [List.length_map,Array.length_toList]; exact hi)=(d'[i]!.z,d'[i]!.mo):=by
    rw [List.getElem_map,Array.getElem_toList,getElem!_pos d' i hi]; rfl
   refine ⟨⟨g,0,none⟩,d'[i]!.neg,d'[i]!.A,d'[i]!.n,d'[i]!.c,rfl,Nat.lt_of_lt_of_le hglt hgrow.size,?_,?_⟩
   · rw [zc9,Nat.zero_add,hpi];exact ⟨hcell 0 (by omega),hcell 1 (by omega),hcell 2 (by omega),hcell 3 (by omega),hcell 4 (by omega),hcell 5 (by omega)⟩
   · rw [hpi];exact Cf.turn hcfk hnat
 · exact Below.grown (Below.refl _ _) hgrow (by omega) (fun b e=>by injection e with e; omega)
 · exact hgrow.size
/- Layer 20: newGather, (*gather).poly. -/
set_option maxRecDepth 100000
set_option maxHeartbeats 8000000
theorem xhr (w:World):Calls Tryz.prog 90 #[] w fun e w'=>e=.returned (.pointer (some ⟨w.heap.size+1,0,none⟩))/\GaV w.heap.size w' (w.heap.size+1) w.heap.size (.slice none 0 0) []/\Ext w w':=by
 obtain ⟨W,hW⟩:=n_m ((w.alloc (.map #[] 0)).alloc (.cells #[.map (some w.heap.size),.slice none 0 0] 213));have hx1:Ext w (w.alloc (.map #[] 0)):=(Ext.refl w).alloc _;have hx2:Ext (w.alloc (.map #[] 0)) W:=by rw [<- hW]; exact (Ext.refl _).alloc _
 have hg:GaV w.heap.size W (w.heap.size+1) w.heap.size (.slice none 0 0) []:=by
  refine ⟨?_,?_,fun i=>?_,(xdf.made w).ext hx2,TsV.nil _ _ _,⟨by omega,Nat.le_refl _,by omega,by rw [<- hW]; simp⟩,fun R e=>by cases e⟩
  · rw [<- hW]; simp [go_sem]
  · rw [<- hW]; simp [go_sem]
  · rw [<- hW]; simp [go_sem]
 have HG:=Lib.hid hg;have HX:=Lib.hid (hx1.trans hx2);clear hg hx1 hx2;have hmm:=@run_makeMap Tryz.prog;go_enter Tryz.func90,Tryz.ntmps90;go_wp2_with fail;go_ret;exact ⟨rfl,HG.out,HX.out⟩
def nz (l:Sp):Sp:=l.filter fun x=>decide (x.1 ≠ 0)
theorem zhw (l:Sp) (k:Nat) (hk:k < l.length) (h:l[k].1=0):nz (l.take (k+1))=nz (l.take k):=by
 unfold nz;rw [List.take_succ_eq_append_getElem hk,List.filter_append,List.filter_cons];simp [h]
theorem uh2 (l:Sp) (k:Nat) (hk:k < l.length) (h:l[k].1 ≠ 0):nz (l.take (k+1))=nz (l.take k) ++ [l[k]]:=by
 unfold nz;rw [List.take_succ_eq_append_getElem hk,List.filter_append,List.filter_cons];simp [h]
theorem gii (l:Sp):(nz l).length<=l.length:=List.length_filter_le _ _
theorem ji1 (l:Sp) (k:Mo):wc2 (nz l) k=wc2 l k:=by
 induction l with
 | nil=>rfl
 | cons x r ih =>
   obtain ⟨c,m⟩:=x;unfold nz at ih ⊢;rw [List.filter_cons]
   by_cases h:c=0
   · rw [if_neg (by simpa using h),ih,wc2,h]; split <;> omega
   · rw [if_pos (by simpa using h),wc2,wc2,ih]
theorem xh8 {l l':Sp} (h:l'.Perm l) (k:Mo):wc2 l' k=wc2 l k:=by
 induction h with
 | nil=>rfl
 | cons x _ ih=>obtain ⟨c,m⟩:=x; simp only [wc2,ih]
 | swap x y l=>obtain ⟨c,m⟩:=x; obtain ⟨d,n⟩:=y; simp only [wc2]; omega
 | trans _ _ ih1 ih2=>exact ih1.trans ih2
theorem yiz {l:Sp} (h0:∀ x ∈ l,x.1 ≠ 0) (h:l.Pairwise fun x y=>y.2.lt x.2):zde l:=by
 induction l with
 | nil=>exact trivial
 | cons x r ih =>
   obtain ⟨c,m⟩:=x;rw [List.pairwise_cons] at h;exact ⟨h0 (c,m) (by simp),fun y hy=>h.1 y hy,ih (fun y hy=>h0 y (by simp [hy])) h.2⟩
theorem vht {l l':Sp} (hp:l'.Perm (nz l)) (ha:Apart l) (hn:∀ x ∈ l,x.2.nonneg) (hs:∀ i j (hi:i < l'.length) (hj:j < l'.length),i < j->¬ (l'[i].2).lt l'[j].2):l'=yc6 l:=by
 have hmem:∀ x ∈ l',x ∈ l/\x.1 ≠ 0:=fun x hx=>by
  have:=hp.mem_iff.1 hx;unfold nz at this;obtain ⟨h1,h2⟩:=List.mem_filter.1 this;exact ⟨h1,by simpa using h2⟩
 have hap:Apart l':=by
  unfold Apart at ha ⊢;have h1:(nz l).Pairwise fun x y=>x.2 ≠ y.2:=List.Pairwise.filter _ ha
  exact (hp.pairwise_iff (fun {x y} h=>fun e=>h e.symm)).2 h1
 have hpw:l'.Pairwise fun x y=>y.2.lt x.2:=by
  rw [List.pairwise_iff_getElem];unfold Apart at hap;rw [List.pairwise_iff_getElem] at hap;intro i j hi hj hij;rcases Mo.tri l'[i].2 l'[j].2 with h | h | h
  · exact absurd h (hs i j hi hj hij)
  · exact absurd h (hap i j hi hj hij)
  · exact h
 exact xio (yiz (fun x hx=>(hmem x hx).2) hpw) (fun x hx=>hn x (hmem x hx).1) (fun k _=>by rw [xh8 hp,ji1])
theorem wig {base G M:Nat} {v:Value} {l:Sp} {w:World} (h:GaV base w G M v l) (ha:Apart l) (hnn:∀ x ∈ l,x.2.nonneg) (hlen:l.length<=1099511627776):Calls Tryz.prog 92 #[.pointer (some ⟨G,0,none⟩)] w fun e w'=>∃ v',e=.returned v'/\SpO w.heap.size w' v' (yc6 l)/\Ext w w':=by
 obtain ⟨g0,g1,gf,-,gt,-,-⟩:=h;obtain ⟨At,ct,e,hl1,hl2,hat⟩:=gt.sp;subst e;have HAT:=Lib.hid hat;have HA:=Lib.hid ha;have HNN:=Lib.hid hnn;clear hat gt ha hnn gf;go_enter Tryz.func92,Tryz.ntmps92;go_wp2_with fail
 go_loopw [3,11] (fun rv iv wr=>∃ k:Nat,k<=l.length/\iv=.int .i64 k/\(∃ Ak ck,rv=.slice Ak (nz (l.take k)).length ck)/\Hid (TsV none w.heap.size wr rv (nz (l.take k))/\Ext w wr)) (fun _ iv _=>l.length - (intOf iv).toNat)
 case atStart=>exact ⟨0,Nat.zero_le _,rfl,⟨none,0,rfl⟩,TsV.nil _ _ _,Ext.refl _⟩
 case round =>
  obtain ⟨k,hk,rfl,⟨Ak,ck,rfl⟩,⟨ht,hx⟩⟩:=hrel;have HT:=Lib.hid ht;have HX:=Lib.hid hx
  by_cases hlt:k < l.length
  · obtain ⟨ad,b,B,n,c,rfl,hadb,htm,hcf⟩:=HAT.out.ext hx k hlt;obtain ⟨t0,t1,t2,t3,t4,t5⟩:=htm;have HCF:=Lib.hid hcf;have hnzl:(nz (l.take k)).length<=k:=by have:=gii (l.take k); rw [List.length_take] at this; omega
    have HTZ:=Lib.hid (zhw l k hlt);have HTP:=Lib.hid (uh2 l k hlt);have HEQ:Hid (l[k]=(l[k].1,l[k].2)):=rfl;clear ht hx hcf;generalize l[k]=lk at *;go_wp2_with fail;refine (wgr _ lk.1 _ _ ((Cf.raw HCF.out).ext ((Ext.refl _).alloc _))).mono ?_;rintro e w2 ⟨rfl,x2⟩;have y2:Ext wr w2:=((Ext.refl wr).alloc _).trans x2;have hb2:∀ i,w2.cell? ⟨wr.heap.size,i,none⟩=(wr.alloc (.cells #[.bool b,.slice B n c,.int .i64 lk.2.a,.int .i64 lk.2.b,.int .i64 lk.2.c,.int .i64 lk.2.d] 165)).cell? ⟨wr.heap.size,i,none⟩:=fun i=>x2.cell (p:=⟨wr.heap.size,i,none⟩) (by simp)
    have e0:w2.cell? ⟨wr.heap.size,0,none⟩=some (.bool b):=by rw [hb2]; simp [go_sem]
    have e1:w2.cell? ⟨wr.heap.size,1,none⟩=some (.slice B n c):=by rw [hb2]; simp [go_sem]
    have e2:w2.cell? ⟨wr.heap.size,2,none⟩=some (.int .i64 lk.2.a):=by rw [hb2]; simp [go_sem]
    have e3:w2.cell? ⟨wr.heap.size,3,none⟩=some (.int .i64 lk.2.b):=by rw [hb2]; simp [go_sem]
    have e4:w2.cell? ⟨wr.heap.size,4,none⟩=some (.int .i64 lk.2.c):=by rw [hb2]; simp [go_sem]
    have e5:w2.cell? ⟨wr.heap.size,5,none⟩=some (.int .i64 lk.2.d):=by rw [hb2]; simp [go_sem]
    by_cases hz:lk.1=0
    · have hq:(sgI lk.1 != 0)=false:=by rw [hz]; rfl
      have HT2:Hid (TsV none w.heap.size w2 (.slice Ak (nz (l.take k)).length ck) (nz (l.take k))):=HT.out.ext y2;have HX2:=Lib.hid (HX.out.trans y2);have HZ:=Lib.hid (HTZ.out hz);clear hb2 x2 y2;go_wp2_with fail
      go_roundw
      case rel=>exact ⟨k+1,by omega,by go_num,⟨Ak,ck,by rw [HZ.out]⟩,by rw [HZ.out]; exact HT2.out,HX2.out⟩
      case measure=>simp [intOf]; omega
    · have hq:(sgI lk.1 != 0)=true:=qg6 hz;have hws:=HX.out.size;have hws2:=y2.size;obtain ⟨v4,w4,hrun,t4,gg4,nn4,oo4⟩:=(HT.out.ext y2).push (by omega) (HCF.out.ext y2) lk.2 (by omega) 110;have htp:=HTP.out hz;have t4':TsV none w.heap.size w4 v4 (nz (l.take (k+1))):=by rw [htp]; exact t4
      obtain ⟨A4,c4,rfl,-,-⟩:=t4'.len;have x4:Ext w w4:=Below.grown (HX.out.trans y2) gg4 (by omega) (fun bb hb=>(HT.out.own hb).1);have T4:=Lib.hid t4';have X4:=Lib.hid x4;clear t4 t4' gg4 nn4 oo4 x4 hb2 x2 y2 htp
      go_wp2_with (at_builtin
                   refine wpList_append_run rfl (.tmp 19) (.tmp 21) _ _ rfl _ _ _ _ rfl rfl hrun ?_)
      clear hrun
      go_roundw
      case rel=>exact ⟨k+1,by omega,by go_num,⟨A4,c4,rfl⟩,T4.out,X4.out⟩
      case measure=>simp [intOf]; omega
  · have hke:l.take k=l:=by rw [show k=l.length by omega,List.take_length]
    rw [hke] at HT;rw [hke];have hsort:=yio HT.out (Nat.le_trans (gii l) hlen);have HS:=Lib.hid hsort;clear ht hx hsort;go_wp2_with fail;refine HS.out.mono ?_;rintro e w2 ⟨rfl,l',hp,hs,hv,hb,hsz⟩;have hle:=vht hp HA.out HNN.out hs;subst hle;have HV:=Lib.hid hv;have X2:Hid (Ext w w2):=Below.trans HX.out hb;clear hp hs hv hb;go_wp2_with fail;go_ret;exact ⟨_,rfl,HV.out,X2.out⟩
/- Layer 20: sparse.Normal. -/
set_option maxRecDepth 100000
set_option maxHeartbeats 8000000
def kda : Sp -> Sp -> Sp
 | acc,[]=>acc
 | acc,(c,m) :: r=>kda (if m.nonneg then wdd c m acc else acc) r
theorem uhx (acc l r:Sp):kda acc (l ++ r)=kda (kda acc l) r:=by
 induction l generalizing acc with
 | nil=>rfl
 | cons x l ih=>obtain ⟨c,m⟩:=x; simp only [List.cons_append,kda,ih]
theorem jib (l:Sp) (k:Nat) (hk:k < l.length):kda [] (l.take (k+1))=if l[k].2.nonneg then wdd l[k].1 l[k].2 (kda [] (l.take k)) else kda [] (l.take k):=by
 rw [List.take_succ_eq_append_getElem hk,uhx]; rfl
theorem vhj (k : Mo) (hk : k.nonneg) : ∀ (l acc : Sp), wc2 (kda acc l) k = wc2 acc k + wc2 l k
 | [],acc=>by simp [kda,wc2]
 | (c,m) :: r,acc=>by
   rw [kda,vhj k hk r];simp only [wc2]
   by_cases hm:m.nonneg
   · rw [if_pos hm,zik]; omega
   · rw [if_neg hm,if_neg (fun (e:m=k)=>hm (e ▸ hk))]; omega
theorem vhp : ∀ (l acc : Sp), yc4 (kda acc l) <= yc4 acc + yc4 l
 | [],acc=>by simp [kda,yc4]
 | (c,m) :: r,acc=>by
   rw [kda];have h1:=vhp r (if m.nonneg then wdd c m acc else acc);have h2:=jit c m acc;simp only [yc4]
   split at h1 <;> split <;> first | omega | contradiction
theorem jhb : ∀ (l acc : Sp), (kda acc l).length <= acc.length + l.length
 | [],acc=>by simp [kda]
 | (c,m) :: r,acc=>by
   rw [kda];have h1:=jhb r (if m.nonneg then wdd c m acc else acc);have h2:=vit c m acc;simp only [List.length_cons]
   split at h1 <;> split <;> first | omega | contradiction
theorem jhf : ∀ (l acc : Sp), Apart acc -> Apart (kda acc l)
 | [],acc,h=>h
 | (c,m) :: r,acc,h=>by
   rw [kda];refine jhf r _ ?_
   split
   · exact qib c m acc h
   · exact h
theorem vhx : ∀ (l acc : Sp), (∀ x ∈ acc, x.2.nonneg) -> ∀ x ∈ kda acc l, x.2.nonneg
 | [],acc,h=>h
 | (c,m) :: r,acc,h=>by
   rw [kda];refine vhx r _ ?_
   split
   · rename_i hm;intro x hx;rcases khx hx with e | ⟨y,hy,e⟩
     · rw [e]; exact hm
     · rw [<- e]; exact h y hy
   · exact h
theorem xh3 (l:Sp):yc6 (kda [] l)=yc6 l:=whd fun k hk=>by rw [vhj k hk]; simp [wc2]
theorem qif (l:Sp) (k:Nat):yc4 (l.take k)<=yc4 l:=by
 have:yc4 l=yc4 (l.take k)+yc4 (l.drop k):=by rw [<- ydj,List.take_append_drop]
 omega
theorem SpO.less {b b':Nat} {w:World} {v:Value} {l:Sp} (h:SpO b w v l) (hb:b'<=b):SpO b' w v l:=⟨h.1,fun hp=>by
 obtain ⟨g,c,e,h1,h2⟩:=h.2 hp
 exact ⟨g,c,e,Nat.le_trans hb h1,h2⟩⟩
def vi9 (l:Sp) (w:World) (e:Ending) (w':World):Prop:=∃ v,e=.returned v/\SpO w.heap.size w' v l/\Ext w w'
def xjb (l:Sp) (w:World) (e:Ending) (w':World):Prop:=∃ v,e=.returned v/\SpV w' none v l/\Ext w w'
theorem qhu {w:World} {ko:Option Nat} {v:Value} {l:Sp} (L:Nat) (h:SpV w ko v l) (hk:∀ z:Int,(∃ x ∈ l,x.1=z)->ko.getD (dg z.natAbs).length<=L) (hL:L+(dg (yc4 l)).length<=35184372088000) (hlen:l.length<=1099511627776):Calls Tryz.prog 54 #[v] w (vi9 (yc6 l) w):=by
 obtain ⟨A,c,rfl,hl1,hl2,hat⟩:=h;have HAT:=Lib.hid hat;have HKO:=Lib.hid hk;clear hat hk;go_enter Tryz.func54,Tryz.ntmps54;go_wp2_with fail;refine (xhr w).mono ?_;rintro e w1 ⟨rfl,g1,x1⟩;have HX1:=Lib.hid x1;have HG1:=Lib.hid g1;clear g1 x1;go_wp2_with fail
 go_loopw [9] (fun iv wr=>∃ k:Nat,k<=l.length/\iv=.int .i64 k/\Hid ((∃ gv,GaV w.heap.size wr (w.heap.size+1) w.heap.size gv (kda [] (l.take k)))/\Ext w wr)) (fun iv _=>l.length - (intOf iv).toNat)
 case atStart=>exact ⟨0,Nat.zero_le _,rfl,⟨_,HG1.out⟩,HX1.out⟩
 case round =>
  obtain ⟨k,hk,rfl,⟨⟨gv,hg⟩,hx⟩⟩:=hrel;have HG:=Lib.hid hg;have HX:=Lib.hid hx
  by_cases hlt:k < l.length
  · obtain ⟨ad,b,B,n,d,rfl,hadb,htm,hcf⟩:=HAT.out.ext hx k hlt;obtain ⟨t0,t1,t2,t3,t4,t5⟩:=htm;have hs:=hx.size;have hko:=HKO.out l[k].1 ⟨_,List.getElem_mem hlt,rfl⟩;have hnr:(dg (yc4 (kda [] (l.take k)))).length<=(dg (yc4 l)).length:=xc6 (Nat.le_trans (vhp (l.take k) []) (by have:=qif l k; simp only [yc4]; omega));have hgl:=jhb (l.take k) [];rw [List.length_take] at hgl;simp only [List.length_nil] at hgl;have hcall:=fun W (hW:Ext wr W)=>yiu (hg.ext hW) l[k].2 (.agg #[.bool b,.slice B n d]) L l[k].1 ((hcf.ext hW).raw.mono hko) (by have:=hW.size; omega) (by omega) (by omega)
    rw [<- jib l k hlt] at hcall;have HCALL:=Lib.hid hcall;clear hcall hg hx hcf hko hnr hgl;generalize l[k]=lk at *;go_wp2_with fail;refine (HCALL.out _ ((Ext.refl _).alloc _)).mono ?_;rintro e w2 ⟨rfl,v2,g2,b2,n2,-⟩;have X2:Hid (Ext w w2):=Below.trans (HX.out.alloc _) b2;have G2:=Lib.hid g2;clear g2 b2 n2 HCALL;go_wp2_with fail
    go_roundw
    case rel=>exact ⟨k+1,by omega,by go_num,⟨_,G2.out⟩,X2.out⟩
    case measure=>simp [intOf]; omega
  · have hke:l.take k=l:=by rw [show k=l.length by omega,List.take_length]
    rw [hke] at HG;have hgl:=jhb l [];simp only [List.length_nil] at hgl;have hcall:=wig HG.out (jhf l [] List.Pairwise.nil) (vhx l [] (by simp)) (by omega);rw [xh3] at hcall;have HCALL:=Lib.hid hcall;clear hcall hg hx hke;go_wp2_with fail;refine HCALL.out.mono ?_;rintro e w2 ⟨v2,rfl,s2,x2⟩;have S2:=Lib.hid (s2.less HX.out.size);have X2:=Lib.hid (HX.out.trans x2);clear s2 x2;go_wp2_with fail;go_ret;exact ⟨_,rfl,S2.out,X2.out⟩
theorem qh1 {w:World} {ko:Option Nat} {v:Value} {l:Sp} (L:Nat) (h:SpV w ko v l) (hk:∀ z:Int,(∃ x ∈ l,x.1=z)->ko.getD (dg z.natAbs).length<=L) (hL:L+(dg (yc4 l)).length<=35184372088000) (hlen:l.length<=1099511627776):Calls Tryz.prog 54 #[v] w (xjb (yc6 l) w):=
 (qhu L h hk hL hlen).mono fun _ _ ⟨v,e,hs,hx⟩=>⟨v,e,hs.1,hx⟩
end Go.Proofs.YtopddaabiinboaaGreat
