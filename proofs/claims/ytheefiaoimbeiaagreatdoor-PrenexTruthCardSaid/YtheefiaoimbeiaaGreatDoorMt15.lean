/- Reference 34: Few. -/
import Derived.Test.YtheefiaoimbeiaaGreatDoorMt14
import Derived.Test.YtheefiaoimbeiaaGreatDoorMt6
import Derived.Test.YtheefiaoimbeiaaGreatDoorMt3
import Derived.Test.YtheefiaoimbeiaaGreatDoorMt4
set_option linter.unusedSimpArgs false
set_option linter.unusedVariables false

set_option maxRecDepth 100000
set_option maxHeartbeats 8000000
namespace Go.Proofs.YtheefiaoimbeiaaGreatDoor
open Go.RowKit
def Nd.ok (d:Nd):Bool:=decide (d.ds.length<=20) && decide (d.name.size<=40)
def Tr.few (t:Tr) (n:Nat):Bool:=decide (0<=t.room n 40) && t.list.all fun x=>x.d.ok
theorem kca {α:Type} (l:List α) (f:α->Bool) (k:Nat) (hk:k < l.length) (h:f l[k]=false):l.all f=false:=List.all_eq_false.2 ⟨l[k],List.getElem_mem hk,by rw [h]; simp⟩
theorem yb2 {α:Type} (l:List α) (f:α->Bool) (k:Nat) (hk:k < l.length):(l.take (k+1)).all f=((l.take k).all f && f l[k]):=by rw [List.take_succ_eq_append_getElem hk,List.all_append]; simp
theorem uy.see {w W:World} {p:Nat->Prop} {base:Nat} {v:Value} {l:List Tr} (h:uy w p base W v l) (hl:0 < l.length):∃ ad cap,v=.slice (some ad) l.length cap/\l.length<=cap/\cap<=9223372036854775807/\∀ W',Ext W W'->∀ k (hk:k < l.length),∃ A0 c0 A1 c1,zah W' (ad.add (k * 9)) l[k].d (.slice A0 l[k].d.ds.length c0) (.slice A1 l[k].ks.length c1)/\TrV w p l[k] (ndV l[k].d (.slice A0 l[k].d.ds.length c0) (.slice A1 l[k].ks.length c1)):=by
 obtain ⟨g,cap,rfl,h1,h2⟩:=h.pos hl;refine ⟨⟨g,0,none⟩,cap,rfl,h1,by unfold maxLen at h2; omega,fun W' hx k hk=>?_⟩;obtain ⟨A0,n0,c0,A1,n1,c1,hn,ht⟩:=(h.ext hx).at_ k hk;obtain ⟨B0,m0,d0,B1,d1,ev,hnat,-⟩:=ht.open_;unfold ndV at ev;simp only [Value.agg.injEq,Array.mk.injEq,List.cons.injEq,and_true,true_and] at ev;obtain ⟨ev,ev2⟩:=ev;rw [<- ev] at hnat;obtain ⟨A',c',en,-⟩:=hnat;injection en with en1 en2 en3
 injection ev2 with ev1 ev2 ev3
 subst en2 ev2;exact ⟨A0,c0,A1,c1,hn,ht⟩
theorem wci {w:World} {p:Nat->Prop} (t:Tr) (v:Value) (h:TrV w p t v) (n:Nat) (hn:n<=1000):Calls Tryz.prog 45 #[v,.int .i64 n] w (kad (t.few n) w):=by
 have HT:=Lib.hid h;obtain ⟨A0,n0,c0,A,c,rfl,-,hl1,hl2,h4⟩:=h.open_;clear h h4;unfold ndV;unfold ndV at HT;obtain ⟨W,hW⟩:=n_m (w.alloc (.cells #[.int .i64 t.d.kind,.bool t.d.neg,.slice A0 n0 c0,.string t.d.name,.int .i64 t.d.exp,.int .i64 t.d.rel,.bool t.d.truth,.bool t.d.all,.slice A t.ks.length c] 29));have hWx:Ext w W:=by rw [<- hW]; exact (Ext.refl w).alloc _
 have hWs:W.heap.size=w.heap.size+1:=by rw [<- hW]; simp
 have hbx:yai W w.heap.size t.d (.slice A0 n0 c0) (.slice A t.ks.length c):=by rw [<- hW]; exact yai.new w t.d _ _ _
 obtain ⟨b0,b1,b2,b3,b4,b5,b6,b7,b8⟩:=id hbx;have HBX:=Lib.hid hbx;have HWX:=Lib.hid hWx;have HRM:=Lib.hid (zcc t _ W n 40 (HT.out.ext hWx) (by omega) (by omega) (by omega));clear hWx hbx
 by_cases hr:t.room n 40 < 0
 · have hd:decide (t.room n 40 < 0)=true:=by simpa using hr
   have HF:Hid (t.few n=false):=by
    have:t.few n=false:=by unfold Tr.few; simp; intro h; omega
    exact this
   clear hr;go_enter Tryz.func45,Tryz.ntmps45;go_wp2_with fail;clear hW;refine HRM.out.mono ?_;rintro e w1 ⟨rfl,x1⟩;have X1:=Lib.hid x1;clear x1 b0 b1 b2 b3 b4 b5 b6 b7 b8;generalize hrm:t.room n 40=rm at *;clear hrm;go_wp2_with fail;go_ret;exact ⟨by rw [HF.out]; rfl,HWX.out.trans X1.out⟩
 · have hd:decide (t.room n 40 < 0)=false:=by simpa using hr
   have hsz:t.sz<=n:=t.room_le n 40 (by omega);have HF:Hid (t.few n=t.list.all fun x=>x.d.ok):=by
    have:t.few n=t.list.all fun x=>x.d.ok:=by
     unfold Tr.few;rw [show decide (0<=t.room n 40)=true by simp; omega,Bool.true_and]
    exact this
   clear hr;go_enter Tryz.func45,Tryz.ntmps45;go_wp2_with fail;clear hW;refine HRM.out.mono ?_;rintro e w1 ⟨rfl,x1⟩;have X1:=Lib.hid x1;clear b0 b1 b2 b3 b4 b5 b6 b7 b8;obtain ⟨b0,b1,b2,b3,b4,b5,b6,b7,b8⟩:=HBX.out.ext x1 (by omega);have HLI:=Lib.hid (gbk t _ (HT.out.ext (HWX.out.trans x1)) (by omega));have hlp:0 < t.list.length:=by rw [t.list_len]; exact t.sz_pos
   clear x1;generalize hrm:t.room n 40=rm at *;clear hrm HRM;generalize hls:t.list=ls at *;have HLS:=Lib.hid hls;clear hls;go_wp2_with fail;clear hd;refine HLI.out.mono ?_;rintro e w2 ⟨v2,u2,rfl,l2,i2,-,x2⟩;obtain ⟨ad,cap,rfl,hc1,hc2,hat⟩:=l2.see hlp;obtain ⟨g',cap',rfl,-,-⟩:=i2.pos hlp;have L2:=Lib.hid hat;have X2:=Lib.hid x2;clear b0 b1 b2 b3 b4 b5 b6 b7 b8 l2 i2 hat x2 HLI HBX HT;go_wp2_with fail
   go_loopw [19] (fun iv wr=>∃ k:Nat,k<=ls.length/\iv=.int .i64 k/\Hid (((ls.take k).all fun x=>x.d.ok)=true/\Ext w2 wr)) (fun iv _=>ls.length - (intOf iv).toNat)
   case atStart=>exact ⟨0,Nat.zero_le _,rfl,⟨by simp,Ext.refl w2⟩⟩
   case round =>
    obtain ⟨k,hk,rfl,⟨hal,hx⟩⟩:=hrel;have HA:=Lib.hid hal;have HX:=Lib.hid hx
    by_cases hlt:k < ls.length
    · obtain ⟨A0,c0,A1,c1,⟨e0,e1,e2,e3,e4,e5,e6,e7,e8⟩,ht⟩:=L2.out wr hx k hlt;have HTK:=Lib.hid (yb2 ls (fun x=>x.d.ok) k hlt);have HCUT:=Lib.hid (kca ls (fun x=>x.d.ok) k hlt);have HOK:Hid (ls[k].d.ok=(decide (ls[k].d.ds.length<=20) && decide (ls[k].d.name.size<=40))):=rfl;clear ht hal hx e0 e1 e4 e5 e6 e7 e8;generalize ls[k].d.ok=okk at *;generalize ls[k].d.ds.length=n1 at *;generalize ls[k].d.name=nm at *
      by_cases h20:n1<=20
      · have hd20:decide ((20:Int) < (n1:Int))=false:=by simp; omega
        by_cases h40:nm.size<=40
        · have hd40:decide ((40:Int) < (nm.size:Int))=false:=by simp; omega
          have HN:Hid (((ls.take (k+1)).all fun x=>x.d.ok)=true):=by
           have:((ls.take (k+1)).all fun x=>x.d.ok)=true:=by rw [HTK.out,HA.out,HOK.out]; simp [h20,h40]
           exact this
          go_wp2_with fail
          go_roundw
          case rel=>exact ⟨k+1,by omega,by go_num,⟨HN.out,HX.out⟩⟩
          case measure=>simp [intOf]; omega
        · have hd40:decide ((40:Int) < (nm.size:Int))=true:=by simp; omega
          have HN:Hid ((ls.all fun x=>x.d.ok)=false):=by
           have:(ls.all fun x=>x.d.ok)=false:=HCUT.out (by rw [HOK.out]; simp [h40]);exact this
          go_wp2_with fail;go_ret;exact ⟨by rw [HF.out,HN.out]; rfl,HWX.out.trans (X1.out.trans (X2.out.trans HX.out))⟩
      · have hd20:decide ((20:Int) < (n1:Int))=true:=by simp; omega
        have HN:Hid ((ls.all fun x=>x.d.ok)=false):=by
         have:(ls.all fun x=>x.d.ok)=false:=HCUT.out (by rw [HOK.out]; simp [h20]);exact this
        go_wp2_with fail;go_ret;exact ⟨by rw [HF.out,HN.out]; rfl,HWX.out.trans (X1.out.trans (X2.out.trans HX.out))⟩
    · have HN:Hid ((ls.all fun x=>x.d.ok)=true):=by
       have hke:k=ls.length:=by omega
       rw [hke,List.take_length] at hal;exact hal
      clear hal hx;go_wp2_with fail;go_ret;exact ⟨by rw [HF.out,HN.out]; rfl,HWX.out.trans (X1.out.trans (X2.out.trans HX.out))⟩
end Go.Proofs.YtheefiaoimbeiaaGreatDoor

/- Layer 34: formula.OfTerm, formula.Of: the term, the formula of a tree. -/
set_option maxRecDepth 100000
set_option maxHeartbeats 8000000
namespace Go.Proofs.YtheefiaoimbeiaaGreatDoor
open Go.RowKit
attribute [local go_sem] xaa xy gaa zaa kaa jaa yaa yt qy qaa uaa yad qm vaa ut
def zy (L : Nat) : Tm -> Tr -> Prop
 | .num z,t=>t.d.kind=1/\t.ks=[]/\z=sgn t.d.neg (val t.d.ds)/\t.d.ds.length<=L
 | .name s,t=>t.d.kind=2/\t.ks=[]/\t.d.name=s
 | .add a b,t=>t.d.kind=3/\∃ x y,t.ks=[x,y]/\zy L a x/\zy L b y
 | .sub a b,t=>t.d.kind=4/\∃ x y,t.ks=[x,y]/\zy L a x/\zy L b y
 | .mul a b,t=>t.d.kind=5/\∃ x y,t.ks=[x,y]/\zy L a x/\zy L b y
 | .neg a,t=>t.d.kind=6/\∃ x,t.ks=[x]/\zy L a x
 | .pow a e,t=>t.d.kind=7/\t.d.exp=e/\0<=e/\∃ x,t.ks=[x]/\zy L a x
def xas (L:Nat) (m:Tm) (w:World) (e:Ending) (w':World):Prop:=∃ v,e=.returned (.tuple #[v,.int .i64 0])/\TmV w' L m v/\Ext w w'
theorem TmV.box {w:World} {L:Nat} {a:Addr} {u:Value} (ha:w.cell? a=some u) (hu:uu u=false) (u':Value) {t:Tm} {v:Value} (h:TmV w L t v):TmV (w.setCell a u') L t v:=by
 induction t generalizing v with
 | num z=>obtain ⟨x,e,h⟩:=h; exact ⟨x,e,h.box ha hu u'⟩
 | name s=>exact h
 | add a b iha ihb=>obtain ⟨x,y,e,h,k⟩:=h; exact ⟨x,y,e,iha h,ihb k⟩
 | sub a b iha ihb=>obtain ⟨x,y,e,h,k⟩:=h; exact ⟨x,y,e,iha h,ihb k⟩
 | mul a b iha ihb=>obtain ⟨x,y,e,h,k⟩:=h; exact ⟨x,y,e,iha h,ihb k⟩
 | neg a iha=>obtain ⟨x,e,h⟩:=h; exact ⟨x,e,iha h⟩
 | pow a n iha=>obtain ⟨x,e,h⟩:=h; exact ⟨x,e,iha h⟩
def jbb : Value -> Bool
 | .iface _ _=>true
 | .nilIface=>true
 | _=>false
theorem kch {u:Value} (h:jbb u=true):uu u=false:=by cases u <;> simp_all [jbb,uu]
def uac (L:Nat) (w:World) (g g':Nat) (o:Obj) (xs:List Tm) (k:Nat) (wr:World):Prop:=
 Ext w wr/\wr.heap[g']?=some o/\∃ u0 u1,wr.heap[g]?=some (.cells #[u0,u1] 169 (0,0))/\jbb u0=true/\jbb u1=true/\(∀ x,0 < k->xs[0]?=some x->TmV wr L x u0)/\(∀ x,1 < k->xs[1]?=some x->TmV wr L x u1)
theorem uac.cell {L:Nat} {w:World} {g g':Nat} {o:Obj} {xs:List Tm} {k:Nat} {wr:World} (h:uac L w g g' o xs k wr) (j:Nat) (hj:j < 2):∃ u,wr.cell? ⟨g,j,none⟩=some u/\jbb u=true/\wr.frozen? ⟨g,j,none⟩=false:=by
 obtain ⟨-,-,u0,u1,h1,h2,h3,-⟩:=h;rcases (show j=0\/j=1 by omega) with rfl | rfl
 · exact ⟨u0,by simp [World.cell?,h1],h2,by simp [World.frozen?,h1]⟩
 · exact ⟨u1,by simp [World.cell?,h1],h3,by simp [World.frozen?,h1]⟩
theorem uac.ext {L:Nat} {w:World} {g g':Nat} {o:Obj} {xs:List Tm} {k:Nat} {wr w':World} (h:uac L w g g' o xs k wr) (hx:Ext wr w'):uac L w g g' o xs k w':=by
 obtain ⟨h0,h0',u0,u1,h1,h2,h3,h4,h5⟩:=h;have lt:∀ {i:Nat} {o:Obj},wr.heap[i]?=some o->i < wr.heap.size:=fun {i o} h=>(Array.getElem?_eq_some_iff.1 h).1
 exact ⟨h0.trans hx,(hx.below.block _ (lt h0')).trans h0',u0,u1,(hx.below.block _ (lt h1)).trans h1,h2,h3,fun x hk hxs=>(h4 x hk hxs).ext hx,fun x hk hxs=>(h5 x hk hxs).ext hx⟩
theorem uac.put {L:Nat} {w:World} {g g':Nat} {o:Obj} {xs:List Tm} {k:Nat} {wr:World} (h:uac L w g g' o xs k wr) (hk:k < 2) (hg:w.heap.size<=g) (hne:g' ≠ g) {u:Value} (hu:jbb u=true) (hx:∀ x,xs[k]?=some x->TmV wr L x u) :
 uac L w g g' o xs (k+1) (wr.setCell ⟨g,k,none⟩ u):=by
 obtain ⟨uk,ck,ik,-⟩:=h.cell k hk;obtain ⟨h0,h0',u0,u1,h1,h2,h3,h4,h5⟩:=h;have bx:∀ {x v},TmV wr L x v->TmV (wr.setCell ⟨g,k,none⟩ u) L x v:=fun {x v} hv=>hv.box ck (kch ik) u
 refine ⟨h0.setCell hg _,(Below.heap_setCell wr ⟨g,k,none⟩ u g' hne).trans h0',?_⟩;have hs:∀ c:Array Value,wr.heap[g]?=some (.cells c 169 (0,0))->(wr.setCell ⟨g,k,none⟩ u).heap[g]?=some (.cells (c.setIfInBounds k u) 169 (0,0)):=fun c hc=>by
  simp [World.setCell,Array.getElem?_modify,hc]
 rcases (show k=0\/k=1 by omega) with rfl | rfl
 · exact ⟨u,u1,by rw [hs _ h1]; rfl,hu,h3,fun x _ hxs=>bx (hx x hxs),fun x hk=>absurd hk (by omega)⟩
 · exact ⟨u0,u,by rw [hs _ h1]; rfl,h2,hu,fun x _ hxs=>bx (h4 x (by omega) hxs),fun x _ hxs=>bx (hx x hxs)⟩
def zav (L n:Nat):Prop:=∀ (m:Tm) (t:Tr),m.sz < n->zy L m t->∀ (v:Value) (w:World),TrV w (fun _=>True) t v->Calls Tryz.prog 59 #[v] w (xas L m w)
theorem jco {L n:Nat} (ih:zav L n) {a b:Tm} (t:Tr) (hsz:(Tm.add a b).sz < n+1) (h:zy L (.add a b) t) (v:Value) (w:World) (hv:TrV w (fun _=>True) t v):Calls Tryz.prog 59 #[v] w (xas L (.add a b) w):=by
 have IH:=Lib.hid ih;clear ih;obtain ⟨⟨kind,neg,ds,name,exp,rel,truth,all⟩,ks⟩:=t;obtain ⟨hkind,t0,t1,hks,h0,h1⟩:=h;simp only [Tr.d] at hkind;simp only [Tr.ks] at hks;subst hkind hks;obtain ⟨A0,n0,c0,A,c,rfl,hnat,hc1,hc2,hat⟩:=hv.open_
 change ug w _ [t0,t1] A 0 at hat
 have HAT:=Lib.hid hat;clear hv hat hnat;unfold ndV;simp only [Tr.d,Tr.ks,List.length_cons,List.length_nil,Nat.zero_add,Nat.reduceAdd] at hc1 ⊢;have HIS:Hid (∀ i (hi:i < 2),zy L ([a,b][i]'(by simpa using hi)) ([t0,t1][i]'(by simpa using hi))):=by
  intro i hi;rcases (show i=0\/i=1 by omega) with rfl | rfl
  · exact h0
  · exact h1
 clear h0 h1;have hsz':∀ i (hi:i < 2),([a,b][i]'(by simpa using hi)).sz < n:=by
  intro i hi;simp only [Tm.sz] at hsz;rcases (show i=0\/i=1 by omega) with rfl | rfl <;> simp <;> omega
 have HSZ:=Lib.hid hsz';clear hsz';go_enter Tryz.func59,Tryz.ntmps59;go_wp2_with fail
 go_loopw [40] (fun iv wr=>∃ k:Nat,k<=2/\iv=.int .i64 k/\Hid (uac L w (w.heap.size+1) w.heap.size (.cells #[.int .i64 3,.bool neg,.slice A0 n0 c0,.string name,.int .i64 exp,.int .i64 rel,.bool truth,.bool all,.slice A 2 c] 29) [a,b] k wr)) (fun iv _=>2 - (intOf iv).toNat)
 case atStart =>
  refine ⟨0,by omega,rfl,⟨((Ext.refl w).alloc _).alloc _,?_,.nilIface,.nilIface,?_,rfl,rfl,fun x hk=>absurd hk (by omega),fun x hk=>absurd hk (by omega)⟩⟩
  · rw [Below.heap_alloc _ _ _ (by simp)]; exact heap_alloc_new w _
  · have:=heap_alloc_new (w.alloc (.cells #[.int .i64 3,.bool neg,.slice A0 n0 c0,.string name,.int .i64 exp,.int .i64 rel,.bool truth,.bool all,.slice A 2 c] 29)) (.cells #[.nilIface,.nilIface] 169)
    rwa [World.size_alloc] at this
 case round =>
  obtain ⟨k,hk,rfl,hinv⟩:=hrel;have HINV:=Lib.hid hinv;have hwx:=hinv.1;have hat2:=HAT.out.ext hwx;have hb8:=hinv.2.1;clear hinv
  by_cases hlt:k < 2
  · obtain ⟨ad,B0,m0,d0,B1,m1,d1,rfl,hadb,⟨e0,e1,e2,e3,e4,e5,e6,e7,e8⟩,hkt⟩:=hat2.kid k (by simpa using hlt);have HKT:=Lib.hid hkt;clear hkt hat2 hb8 hwx;have hisk:=HIS.out k hlt;have hszk:=HSZ.out k hlt;have HISK:=Lib.hid hisk;have HXK:Hid (∃ x,[a,b][k]?=some x/\zy L x ([t0,t1][k]'(by simpa using hlt))/\x.sz < n):=⟨_,List.getElem?_eq_getElem (by simpa using hlt),hisk,hszk⟩;clear hisk hszk HISK;generalize ([t0,t1][k]'(by simpa using hlt))=tk at *;obtain ⟨x,hxk,hisx,hszx⟩:=HXK;have HXK:=Lib.hid hxk;have HISX:=Lib.hid hisx;clear hxk hisx;go_wp2_with fail;refine (IH.out x tk hszx HISX.out _ _ (HKT.out.ext ((Ext.refl wr).alloc _))).mono ?_;rintro e w2 ⟨v2,rfl,htm,hx2⟩;have hinv2:=HINV.out.ext (((Ext.refl wr).alloc _).trans hx2);obtain ⟨T2,u2,rfl⟩:=htm.iface;obtain ⟨uk,ck,ik,fk⟩:=hinv2.cell k (by omega);have HNEXT:=Lib.hid (hinv2.put (u:=.iface T2 u2) (by omega) (by omega) (by omega) rfl (fun y hy=>by rw [HXK.out] at hy; injection hy with hy; subst hy; exact htm));clear hinv2 htm hx2 e0 e1 e2 e3 e4 e5 e6 e7 e8;go_wp2_with fail
    go_roundw
    case rel=>exact ⟨k+1,by omega,by go_num,HNEXT⟩
    case measure=>simp [intOf]; omega
  · clear hat2 hwx;have hk2:2<=k:=by omega
    obtain ⟨hwx,-,u0,u1,hpar,i0,i1,p0,p1⟩:=HINV.out;have c0:wr.cell? ⟨w.heap.size,0,none⟩=some (.int .i64 3):=by simp [World.cell?,hb8]
    have c4:wr.cell? ⟨w.heap.size,4,none⟩=some (.int .i64 exp):=by simp [World.cell?,hb8]
    have q0:wr.cell? ⟨w.heap.size+1,0,none⟩=some u0:=by simp [World.cell?,hpar]
    have q1:wr.cell? ⟨w.heap.size+1,1,none⟩=some u1:=by simp [World.cell?,hpar]
    have f0:=p0 a (by omega) rfl;obtain ⟨T0,u0,rfl⟩:=f0.iface;have f1:=p1 b (by omega) rfl;obtain ⟨T1,u1,rfl⟩:=f1.iface;have HFIN:Hid (TmV wr L (.add a b) (.iface 175 (.agg #[.iface T0 u0,.iface T1 u1]))):=⟨_,_,rfl,f0,f1⟩;clear f0 f1;have HWX:=Lib.hid hwx;clear hb8 hpar hwx HINV i0 i1 p0 p1;go_wp2_with fail
    go_ret2
    exact ⟨_,rfl,HFIN.out,HWX.out⟩
theorem wcn {L n:Nat} (ih:zav L n) {a b:Tm} (t:Tr) (hsz:(Tm.sub a b).sz < n+1) (h:zy L (.sub a b) t) (v:Value) (w:World) (hv:TrV w (fun _=>True) t v):Calls Tryz.prog 59 #[v] w (xas L (.sub a b) w):=by
 have IH:=Lib.hid ih;clear ih;obtain ⟨⟨kind,neg,ds,name,exp,rel,truth,all⟩,ks⟩:=t;obtain ⟨hkind,t0,t1,hks,h0,h1⟩:=h;simp only [Tr.d] at hkind;simp only [Tr.ks] at hks;subst hkind hks;obtain ⟨A0,n0,c0,A,c,rfl,hnat,hc1,hc2,hat⟩:=hv.open_
 change ug w _ [t0,t1] A 0 at hat
 have HAT:=Lib.hid hat;clear hv hat hnat;unfold ndV;simp only [Tr.d,Tr.ks,List.length_cons,List.length_nil,Nat.zero_add,Nat.reduceAdd] at hc1 ⊢;have HIS:Hid (∀ i (hi:i < 2),zy L ([a,b][i]'(by simpa using hi)) ([t0,t1][i]'(by simpa using hi))):=by
  intro i hi;rcases (show i=0\/i=1 by omega) with rfl | rfl
  · exact h0
  · exact h1
 clear h0 h1;have hsz':∀ i (hi:i < 2),([a,b][i]'(by simpa using hi)).sz < n:=by
  intro i hi;simp only [Tm.sz] at hsz;rcases (show i=0\/i=1 by omega) with rfl | rfl <;> simp <;> omega
 have HSZ:=Lib.hid hsz';clear hsz';go_enter Tryz.func59,Tryz.ntmps59;go_wp2_with fail
 go_loopw [40] (fun iv wr=>∃ k:Nat,k<=2/\iv=.int .i64 k/\Hid (uac L w (w.heap.size+1) w.heap.size (.cells #[.int .i64 4,.bool neg,.slice A0 n0 c0,.string name,.int .i64 exp,.int .i64 rel,.bool truth,.bool all,.slice A 2 c] 29) [a,b] k wr)) (fun iv _=>2 - (intOf iv).toNat)
 case atStart =>
  refine ⟨0,by omega,rfl,⟨((Ext.refl w).alloc _).alloc _,?_,.nilIface,.nilIface,?_,rfl,rfl,fun x hk=>absurd hk (by omega),fun x hk=>absurd hk (by omega)⟩⟩
  · rw [Below.heap_alloc _ _ _ (by simp)]; exact heap_alloc_new w _
  · have:=heap_alloc_new (w.alloc (.cells #[.int .i64 4,.bool neg,.slice A0 n0 c0,.string name,.int .i64 exp,.int .i64 rel,.bool truth,.bool all,.slice A 2 c] 29)) (.cells #[.nilIface,.nilIface] 169)
    rwa [World.size_alloc] at this
 case round =>
  obtain ⟨k,hk,rfl,hinv⟩:=hrel;have HINV:=Lib.hid hinv;have hwx:=hinv.1;have hat2:=HAT.out.ext hwx;have hb8:=hinv.2.1;clear hinv
  by_cases hlt:k < 2
  · obtain ⟨ad,B0,m0,d0,B1,m1,d1,rfl,hadb,⟨e0,e1,e2,e3,e4,e5,e6,e7,e8⟩,hkt⟩:=hat2.kid k (by simpa using hlt);have HKT:=Lib.hid hkt;clear hkt hat2 hb8 hwx;have hisk:=HIS.out k hlt;have hszk:=HSZ.out k hlt;have HISK:=Lib.hid hisk;have HXK:Hid (∃ x,[a,b][k]?=some x/\zy L x ([t0,t1][k]'(by simpa using hlt))/\x.sz < n):=⟨_,List.getElem?_eq_getElem (by simpa using hlt),hisk,hszk⟩;clear hisk hszk HISK;generalize ([t0,t1][k]'(by simpa using hlt))=tk at *;obtain ⟨x,hxk,hisx,hszx⟩:=HXK;have HXK:=Lib.hid hxk;have HISX:=Lib.hid hisx;clear hxk hisx;go_wp2_with fail;refine (IH.out x tk hszx HISX.out _ _ (HKT.out.ext ((Ext.refl wr).alloc _))).mono ?_;rintro e w2 ⟨v2,rfl,htm,hx2⟩;have hinv2:=HINV.out.ext (((Ext.refl wr).alloc _).trans hx2);obtain ⟨T2,u2,rfl⟩:=htm.iface;obtain ⟨uk,ck,ik,fk⟩:=hinv2.cell k (by omega);have HNEXT:=Lib.hid (hinv2.put (u:=.iface T2 u2) (by omega) (by omega) (by omega) rfl (fun y hy=>by rw [HXK.out] at hy; injection hy with hy; subst hy; exact htm));clear hinv2 htm hx2 e0 e1 e2 e3 e4 e5 e6 e7 e8;go_wp2_with fail
    go_roundw
    case rel=>exact ⟨k+1,by omega,by go_num,HNEXT⟩
    case measure=>simp [intOf]; omega
  · clear hat2 hwx;have hk2:2<=k:=by omega
    obtain ⟨hwx,-,u0,u1,hpar,i0,i1,p0,p1⟩:=HINV.out;have c0:wr.cell? ⟨w.heap.size,0,none⟩=some (.int .i64 4):=by simp [World.cell?,hb8]
    have c4:wr.cell? ⟨w.heap.size,4,none⟩=some (.int .i64 exp):=by simp [World.cell?,hb8]
    have q0:wr.cell? ⟨w.heap.size+1,0,none⟩=some u0:=by simp [World.cell?,hpar]
    have q1:wr.cell? ⟨w.heap.size+1,1,none⟩=some u1:=by simp [World.cell?,hpar]
    have f0:=p0 a (by omega) rfl;obtain ⟨T0,u0,rfl⟩:=f0.iface;have f1:=p1 b (by omega) rfl;obtain ⟨T1,u1,rfl⟩:=f1.iface;have HFIN:Hid (TmV wr L (.sub a b) (.iface 176 (.agg #[.iface T0 u0,.iface T1 u1]))):=⟨_,_,rfl,f0,f1⟩;clear f0 f1;have HWX:=Lib.hid hwx;clear hb8 hpar hwx HINV i0 i1 p0 p1;go_wp2_with fail
    go_ret2
    exact ⟨_,rfl,HFIN.out,HWX.out⟩
theorem qco {L n:Nat} (ih:zav L n) {a b:Tm} (t:Tr) (hsz:(Tm.mul a b).sz < n+1) (h:zy L (.mul a b) t) (v:Value) (w:World) (hv:TrV w (fun _=>True) t v):Calls Tryz.prog 59 #[v] w (xas L (.mul a b) w):=by
 have IH:=Lib.hid ih;clear ih;obtain ⟨⟨kind,neg,ds,name,exp,rel,truth,all⟩,ks⟩:=t;obtain ⟨hkind,t0,t1,hks,h0,h1⟩:=h;simp only [Tr.d] at hkind;simp only [Tr.ks] at hks;subst hkind hks;obtain ⟨A0,n0,c0,A,c,rfl,hnat,hc1,hc2,hat⟩:=hv.open_
 change ug w _ [t0,t1] A 0 at hat
 have HAT:=Lib.hid hat;clear hv hat hnat;unfold ndV;simp only [Tr.d,Tr.ks,List.length_cons,List.length_nil,Nat.zero_add,Nat.reduceAdd] at hc1 ⊢;have HIS:Hid (∀ i (hi:i < 2),zy L ([a,b][i]'(by simpa using hi)) ([t0,t1][i]'(by simpa using hi))):=by
  intro i hi;rcases (show i=0\/i=1 by omega) with rfl | rfl
  · exact h0
  · exact h1
 clear h0 h1;have hsz':∀ i (hi:i < 2),([a,b][i]'(by simpa using hi)).sz < n:=by
  intro i hi;simp only [Tm.sz] at hsz;rcases (show i=0\/i=1 by omega) with rfl | rfl <;> simp <;> omega
 have HSZ:=Lib.hid hsz';clear hsz';go_enter Tryz.func59,Tryz.ntmps59;go_wp2_with fail
 go_loopw [40] (fun iv wr=>∃ k:Nat,k<=2/\iv=.int .i64 k/\Hid (uac L w (w.heap.size+1) w.heap.size (.cells #[.int .i64 5,.bool neg,.slice A0 n0 c0,.string name,.int .i64 exp,.int .i64 rel,.bool truth,.bool all,.slice A 2 c] 29) [a,b] k wr)) (fun iv _=>2 - (intOf iv).toNat)
 case atStart =>
  refine ⟨0,by omega,rfl,⟨((Ext.refl w).alloc _).alloc _,?_,.nilIface,.nilIface,?_,rfl,rfl,fun x hk=>absurd hk (by omega),fun x hk=>absurd hk (by omega)⟩⟩
  · rw [Below.heap_alloc _ _ _ (by simp)]; exact heap_alloc_new w _
  · have:=heap_alloc_new (w.alloc (.cells #[.int .i64 5,.bool neg,.slice A0 n0 c0,.string name,.int .i64 exp,.int .i64 rel,.bool truth,.bool all,.slice A 2 c] 29)) (.cells #[.nilIface,.nilIface] 169)
    rwa [World.size_alloc] at this
 case round =>
  obtain ⟨k,hk,rfl,hinv⟩:=hrel;have HINV:=Lib.hid hinv;have hwx:=hinv.1;have hat2:=HAT.out.ext hwx;have hb8:=hinv.2.1;clear hinv
  by_cases hlt:k < 2
  · obtain ⟨ad,B0,m0,d0,B1,m1,d1,rfl,hadb,⟨e0,e1,e2,e3,e4,e5,e6,e7,e8⟩,hkt⟩:=hat2.kid k (by simpa using hlt);have HKT:=Lib.hid hkt;clear hkt hat2 hb8 hwx;have hisk:=HIS.out k hlt;have hszk:=HSZ.out k hlt;have HISK:=Lib.hid hisk;have HXK:Hid (∃ x,[a,b][k]?=some x/\zy L x ([t0,t1][k]'(by simpa using hlt))/\x.sz < n):=⟨_,List.getElem?_eq_getElem (by simpa using hlt),hisk,hszk⟩;clear hisk hszk HISK;generalize ([t0,t1][k]'(by simpa using hlt))=tk at *;obtain ⟨x,hxk,hisx,hszx⟩:=HXK;have HXK:=Lib.hid hxk;have HISX:=Lib.hid hisx;clear hxk hisx;go_wp2_with fail;refine (IH.out x tk hszx HISX.out _ _ (HKT.out.ext ((Ext.refl wr).alloc _))).mono ?_;rintro e w2 ⟨v2,rfl,htm,hx2⟩;have hinv2:=HINV.out.ext (((Ext.refl wr).alloc _).trans hx2);obtain ⟨T2,u2,rfl⟩:=htm.iface;obtain ⟨uk,ck,ik,fk⟩:=hinv2.cell k (by omega);have HNEXT:=Lib.hid (hinv2.put (u:=.iface T2 u2) (by omega) (by omega) (by omega) rfl (fun y hy=>by rw [HXK.out] at hy; injection hy with hy; subst hy; exact htm));clear hinv2 htm hx2 e0 e1 e2 e3 e4 e5 e6 e7 e8;go_wp2_with fail
    go_roundw
    case rel=>exact ⟨k+1,by omega,by go_num,HNEXT⟩
    case measure=>simp [intOf]; omega
  · clear hat2 hwx;have hk2:2<=k:=by omega
    obtain ⟨hwx,-,u0,u1,hpar,i0,i1,p0,p1⟩:=HINV.out;have c0:wr.cell? ⟨w.heap.size,0,none⟩=some (.int .i64 5):=by simp [World.cell?,hb8]
    have c4:wr.cell? ⟨w.heap.size,4,none⟩=some (.int .i64 exp):=by simp [World.cell?,hb8]
    have q0:wr.cell? ⟨w.heap.size+1,0,none⟩=some u0:=by simp [World.cell?,hpar]
    have q1:wr.cell? ⟨w.heap.size+1,1,none⟩=some u1:=by simp [World.cell?,hpar]
    have f0:=p0 a (by omega) rfl;obtain ⟨T0,u0,rfl⟩:=f0.iface;have f1:=p1 b (by omega) rfl;obtain ⟨T1,u1,rfl⟩:=f1.iface;have HFIN:Hid (TmV wr L (.mul a b) (.iface 177 (.agg #[.iface T0 u0,.iface T1 u1]))):=⟨_,_,rfl,f0,f1⟩;clear f0 f1;have HWX:=Lib.hid hwx;clear hb8 hpar hwx HINV i0 i1 p0 p1;go_wp2_with fail
    go_ret2
    exact ⟨_,rfl,HFIN.out,HWX.out⟩
theorem xco {L n:Nat} (ih:zav L n) {a:Tm} (t:Tr) (hsz:(Tm.neg a).sz < n+1) (h:zy L (.neg a) t) (v:Value) (w:World) (hv:TrV w (fun _=>True) t v):Calls Tryz.prog 59 #[v] w (xas L (.neg a) w):=by
 have IH:=Lib.hid ih;clear ih;obtain ⟨⟨kind,neg,ds,name,exp,rel,truth,all⟩,ks⟩:=t;obtain ⟨hkind,t0,hks,h0⟩:=h;simp only [Tr.d] at hkind;simp only [Tr.ks] at hks;subst hkind hks;obtain ⟨A0,n0,c0,A,c,rfl,hnat,hc1,hc2,hat⟩:=hv.open_
 change ug w _ [t0] A 0 at hat
 have HAT:=Lib.hid hat;clear hv hat hnat;unfold ndV;simp only [Tr.d,Tr.ks,List.length_cons,List.length_nil,Nat.zero_add,Nat.reduceAdd] at hc1 ⊢;have HIS:Hid (∀ i (hi:i < 1),zy L ([a][i]'(by simpa using hi)) ([t0][i]'(by simpa using hi))):=by
  intro i hi;obtain rfl:i=0:=by omega
  exact h0
 clear h0;have hsz':∀ i (hi:i < 1),([a][i]'(by simpa using hi)).sz < n:=by
  intro i hi;simp only [Tm.sz] at hsz;obtain rfl:i=0:=by omega
  simp; omega
 have HSZ:=Lib.hid hsz';clear hsz';go_enter Tryz.func59,Tryz.ntmps59;go_wp2_with fail
 go_loopw [40] (fun iv wr=>∃ k:Nat,k<=1/\iv=.int .i64 k/\Hid (uac L w (w.heap.size+1) w.heap.size (.cells #[.int .i64 6,.bool neg,.slice A0 n0 c0,.string name,.int .i64 exp,.int .i64 rel,.bool truth,.bool all,.slice A 1 c] 29) [a] k wr)) (fun iv _=>1 - (intOf iv).toNat)
 case atStart =>
  refine ⟨0,by omega,rfl,⟨((Ext.refl w).alloc _).alloc _,?_,.nilIface,.nilIface,?_,rfl,rfl,fun x hk=>absurd hk (by omega),fun x hk=>absurd hk (by omega)⟩⟩
  · rw [Below.heap_alloc _ _ _ (by simp)]; exact heap_alloc_new w _
  · have:=heap_alloc_new (w.alloc (.cells #[.int .i64 6,.bool neg,.slice A0 n0 c0,.string name,.int .i64 exp,.int .i64 rel,.bool truth,.bool all,.slice A 1 c] 29)) (.cells #[.nilIface,.nilIface] 169)
    rwa [World.size_alloc] at this
 case round =>
  obtain ⟨k,hk,rfl,hinv⟩:=hrel;have HINV:=Lib.hid hinv;have hwx:=hinv.1;have hat2:=HAT.out.ext hwx;have hb8:=hinv.2.1;clear hinv
  by_cases hlt:k < 1
  · obtain ⟨ad,B0,m0,d0,B1,m1,d1,rfl,hadb,⟨e0,e1,e2,e3,e4,e5,e6,e7,e8⟩,hkt⟩:=hat2.kid k (by simpa using hlt);have HKT:=Lib.hid hkt;clear hkt hat2 hb8 hwx;have hisk:=HIS.out k hlt;have hszk:=HSZ.out k hlt;have HISK:=Lib.hid hisk;have HXK:Hid (∃ x,[a][k]?=some x/\zy L x ([t0][k]'(by simpa using hlt))/\x.sz < n):=⟨_,List.getElem?_eq_getElem (by simpa using hlt),hisk,hszk⟩;clear hisk hszk HISK;generalize ([t0][k]'(by simpa using hlt))=tk at *;obtain ⟨x,hxk,hisx,hszx⟩:=HXK;have HXK:=Lib.hid hxk;have HISX:=Lib.hid hisx;clear hxk hisx;go_wp2_with fail;refine (IH.out x tk hszx HISX.out _ _ (HKT.out.ext ((Ext.refl wr).alloc _))).mono ?_;rintro e w2 ⟨v2,rfl,htm,hx2⟩;have hinv2:=HINV.out.ext (((Ext.refl wr).alloc _).trans hx2);obtain ⟨T2,u2,rfl⟩:=htm.iface;obtain ⟨uk,ck,ik,fk⟩:=hinv2.cell k (by omega);have HNEXT:=Lib.hid (hinv2.put (u:=.iface T2 u2) (by omega) (by omega) (by omega) rfl (fun y hy=>by rw [HXK.out] at hy; injection hy with hy; subst hy; exact htm));clear hinv2 htm hx2 e0 e1 e2 e3 e4 e5 e6 e7 e8;go_wp2_with fail
    go_roundw
    case rel=>exact ⟨k+1,by omega,by go_num,HNEXT⟩
    case measure=>simp [intOf]; omega
  · clear hat2 hwx;have hk2:1<=k:=by omega
    obtain ⟨hwx,-,u0,u1,hpar,i0,i1,p0,p1⟩:=HINV.out;have c0:wr.cell? ⟨w.heap.size,0,none⟩=some (.int .i64 6):=by simp [World.cell?,hb8]
    have c4:wr.cell? ⟨w.heap.size,4,none⟩=some (.int .i64 exp):=by simp [World.cell?,hb8]
    have q0:wr.cell? ⟨w.heap.size+1,0,none⟩=some u0:=by simp [World.cell?,hpar]
    have q1:wr.cell? ⟨w.heap.size+1,1,none⟩=some u1:=by simp [World.cell?,hpar]
    have f0:=p0 a (by omega) rfl;obtain ⟨T0,u0,rfl⟩:=f0.iface;have HFIN:Hid (TmV wr L (.neg a) (.iface 171 (.agg #[.iface T0 u0]))):=⟨_,rfl,f0⟩;clear f0;have HWX:=Lib.hid hwx;clear hb8 hpar hwx HINV i0 i1 p0 p1;go_wp2_with fail
    go_ret2
    exact ⟨_,rfl,HFIN.out,HWX.out⟩
theorem zco {L n:Nat} (ih:zav L n) {a:Tm} {ex:Int} (t:Tr) (hsz:(Tm.pow a ex).sz < n+1) (h:zy L (.pow a ex) t) (v:Value) (w:World) (hv:TrV w (fun _=>True) t v):Calls Tryz.prog 59 #[v] w (xas L (.pow a ex) w):=by
 have IH:=Lib.hid ih;clear ih;obtain ⟨⟨kind,neg,ds,name,exp,rel,truth,all⟩,ks⟩:=t;obtain ⟨hkind,hexp,hpos,t0,hks,h0⟩:=h;simp only [Tr.d] at hexp;subst hexp;have hpd:decide (exp < 0)=false:=by simpa using hpos
 simp only [Tr.d] at hkind;simp only [Tr.ks] at hks;subst hkind hks;obtain ⟨A0,n0,c0,A,c,rfl,hnat,hc1,hc2,hat⟩:=hv.open_
 change ug w _ [t0] A 0 at hat
 have HAT:=Lib.hid hat;clear hv hat hnat;unfold ndV;simp only [Tr.d,Tr.ks,List.length_cons,List.length_nil,Nat.zero_add,Nat.reduceAdd] at hc1 ⊢;have HIS:Hid (∀ i (hi:i < 1),zy L ([a][i]'(by simpa using hi)) ([t0][i]'(by simpa using hi))):=by
  intro i hi;obtain rfl:i=0:=by omega
  exact h0
 clear h0;have hsz':∀ i (hi:i < 1),([a][i]'(by simpa using hi)).sz < n:=by
  intro i hi;simp only [Tm.sz] at hsz;obtain rfl:i=0:=by omega
  simp; omega
 have HSZ:=Lib.hid hsz';clear hsz';go_enter Tryz.func59,Tryz.ntmps59;go_wp2_with fail
 go_loopw [40] (fun iv wr=>∃ k:Nat,k<=1/\iv=.int .i64 k/\Hid (uac L w (w.heap.size+1) w.heap.size (.cells #[.int .i64 7,.bool neg,.slice A0 n0 c0,.string name,.int .i64 exp,.int .i64 rel,.bool truth,.bool all,.slice A 1 c] 29) [a] k wr)) (fun iv _=>1 - (intOf iv).toNat)
 case atStart =>
  refine ⟨0,by omega,rfl,⟨((Ext.refl w).alloc _).alloc _,?_,.nilIface,.nilIface,?_,rfl,rfl,fun x hk=>absurd hk (by omega),fun x hk=>absurd hk (by omega)⟩⟩
  · rw [Below.heap_alloc _ _ _ (by simp)]; exact heap_alloc_new w _
  · have:=heap_alloc_new (w.alloc (.cells #[.int .i64 7,.bool neg,.slice A0 n0 c0,.string name,.int .i64 exp,.int .i64 rel,.bool truth,.bool all,.slice A 1 c] 29)) (.cells #[.nilIface,.nilIface] 169)
    rwa [World.size_alloc] at this
 case round =>
  obtain ⟨k,hk,rfl,hinv⟩:=hrel;have HINV:=Lib.hid hinv;have hwx:=hinv.1;have hat2:=HAT.out.ext hwx;have hb8:=hinv.2.1;clear hinv
  by_cases hlt:k < 1
  · obtain ⟨ad,B0,m0,d0,B1,m1,d1,rfl,hadb,⟨e0,e1,e2,e3,e4,e5,e6,e7,e8⟩,hkt⟩:=hat2.kid k (by simpa using hlt);have HKT:=Lib.hid hkt;clear hkt hat2 hb8 hwx;have hisk:=HIS.out k hlt;have hszk:=HSZ.out k hlt;have HISK:=Lib.hid hisk;have HXK:Hid (∃ x,[a][k]?=some x/\zy L x ([t0][k]'(by simpa using hlt))/\x.sz < n):=⟨_,List.getElem?_eq_getElem (by simpa using hlt),hisk,hszk⟩;clear hisk hszk HISK;generalize ([t0][k]'(by simpa using hlt))=tk at *;obtain ⟨x,hxk,hisx,hszx⟩:=HXK;have HXK:=Lib.hid hxk;have HISX:=Lib.hid hisx;clear hxk hisx;go_wp2_with fail;refine (IH.out x tk hszx HISX.out _ _ (HKT.out.ext ((Ext.refl wr).alloc _))).mono ?_;rintro e w2 ⟨v2,rfl,htm,hx2⟩;have hinv2:=HINV.out.ext (((Ext.refl wr).alloc _).trans hx2);obtain ⟨T2,u2,rfl⟩:=htm.iface;obtain ⟨uk,ck,ik,fk⟩:=hinv2.cell k (by omega);have HNEXT:=Lib.hid (hinv2.put (u:=.iface T2 u2) (by omega) (by omega) (by omega) rfl (fun y hy=>by rw [HXK.out] at hy; injection hy with hy; subst hy; exact htm));clear hinv2 htm hx2 e0 e1 e2 e3 e4 e5 e6 e7 e8;go_wp2_with fail
    go_roundw
    case rel=>exact ⟨k+1,by omega,by go_num,HNEXT⟩
    case measure=>simp [intOf]; omega
  · clear hat2 hwx;have hk2:1<=k:=by omega
    obtain ⟨hwx,-,u0,u1,hpar,i0,i1,p0,p1⟩:=HINV.out;have c0:wr.cell? ⟨w.heap.size,0,none⟩=some (.int .i64 7):=by simp [World.cell?,hb8]
    have c4:wr.cell? ⟨w.heap.size,4,none⟩=some (.int .i64 exp):=by simp [World.cell?,hb8]
    have q0:wr.cell? ⟨w.heap.size+1,0,none⟩=some u0:=by simp [World.cell?,hpar]
    have q1:wr.cell? ⟨w.heap.size+1,1,none⟩=some u1:=by simp [World.cell?,hpar]
    have f0:=p0 a (by omega) rfl;obtain ⟨T0,u0,rfl⟩:=f0.iface;have HFIN:Hid (TmV wr L (.pow a exp) (.iface 173 (.agg #[.iface T0 u0,.int .i64 exp]))):=⟨_,rfl,f0⟩;clear f0;have HWX:=Lib.hid hwx;clear hb8 hpar hwx HINV i0 i1 p0 p1;go_wp2_with fail
    go_ret2
    exact ⟨_,rfl,HFIN.out,HWX.out⟩
theorem xcf {L n:Nat} (ih:zav L n) {s:ByteArray} (t:Tr) (hsz:(Tm.name s).sz < n+1) (h:zy L (.name s) t) (v:Value) (w:World) (hv:TrV w (fun _=>True) t v):Calls Tryz.prog 59 #[v] w (xas L (.name s) w):=by
 have IH:=Lib.hid ih;clear ih;obtain ⟨⟨kind,neg,ds,name,exp,rel,truth,all⟩,ks⟩:=t;obtain ⟨hkind,hks,hname⟩:=h;simp only [Tr.d] at hname;subst hname;simp only [Tr.d] at hkind;simp only [Tr.ks] at hks;subst hkind hks;obtain ⟨A0,n0,c0,A,c,rfl,hnat,hc1,hc2,hat⟩:=hv.open_
 change ug w _ [] A 0 at hat
 have HAT:=Lib.hid hat;clear hv hat;unfold ndV;simp only [Tr.d,Tr.ks,List.length_cons,List.length_nil,Nat.zero_add,Nat.reduceAdd] at hc1 ⊢;go_enter Tryz.func59,Tryz.ntmps59;go_wp2_with fail;refine wp_loop_rounds 1 ?_;rw [rounds_succ];go_wp2_with fail
 go_ret2
 exact ⟨_,rfl,rfl,((Ext.refl w).alloc _).alloc _⟩
theorem yco {L n:Nat} (hL:L<=35184372088000) (ih:zav L n) {z:Int} (t:Tr) (hsz:(Tm.num z).sz < n+1) (h:zy L (.num z) t) (v:Value) (w:World) (hv:TrV w (fun _=>True) t v):Calls Tryz.prog 59 #[v] w (xas L (.num z) w):=by
 have IH:=Lib.hid ih;clear ih;obtain ⟨⟨kind,neg,ds,name,exp,rel,truth,all⟩,ks⟩:=t;obtain ⟨hkind,hks,hz,hlen⟩:=h;simp only [Tr.d] at hz hlen;simp only [Tr.d] at hkind;simp only [Tr.ks] at hks;subst hkind hks;obtain ⟨A0,n0,c0,A,c,rfl,hnat,hc1,hc2,hat⟩:=hv.open_
 change ug w _ [] A 0 at hat
 have HAT:=Lib.hid hat;clear hv hat;unfold ndV;simp only [Tr.d,Tr.ks,List.length_cons,List.length_nil,Nat.zero_add,Nat.reduceAdd] at hc1 ⊢;go_enter Tryz.func59,Tryz.ntmps59;go_wp2_with fail;refine wp_loop_rounds 1 ?_;rw [rounds_succ];go_wp2_with fail;obtain ⟨W,hW⟩:=n_m ((w.alloc (.cells #[.int .i64 1,.bool neg,.slice A0 n0 c0,.string name,.int .i64 exp,.int .i64 rel,.bool truth,.bool all,.slice A 0 c] 29)).alloc (.cells #[.nilIface,.nilIface] 169));have hWx:Ext w W:=by rw [<- hW]; exact ((Ext.refl w).alloc _).alloc _
 rw [hW];clear hW;have hint:jg W (.agg #[.bool neg,.slice A0 n0 c0]) z L:=⟨neg,_,ds,rfl,hnat.ext hWx,hz,hlen⟩;refine (jar _ z L _ hint (by omega)).mono ?_;rintro e w1 ⟨x1,rfl,m1,y1⟩;have HFIN:Hid (TmV w1 L (.num z) (.iface 110 x1)):=⟨x1,rfl,m1.raw.mono (by rw [hz,uq]; exact Nat.le_trans (ve hnat.digs) hlen)⟩;have HX:=Lib.hid (hWx.trans y1);obtain ⟨b1,A1,n1,c1,rfl⟩:=m1.unpack;clear hint hz hnat hWx m1 y1;go_wp2_with fail
 go_ret2
 exact ⟨_,rfl,HFIN.out,HX.out⟩
theorem wcw (L:Nat) (hL:L<=35184372088000) (n:Nat):zav L n:=by
 induction n with
 | zero=>intro m t h; omega
 | succ n ih =>
   intro m t hsz h v w hv;cases m with
   | num z=>exact yco hL ih t hsz h v w hv
   | name s=>exact xcf ih t hsz h v w hv
   | add a b=>exact jco ih t hsz h v w hv
   | sub a b=>exact wcn ih t hsz h v w hv
   | mul a b=>exact qco ih t hsz h v w hv
   | neg a=>exact xco ih t hsz h v w hv
   | pow a e=>exact zco ih t hsz h v w hv
theorem za8 {L:Nat} (hL:L<=35184372088000) (m:Tm) (t:Tr) (h:zy L m t) (v:Value) (w:World) {p:Nat->Prop} (hv:TrV w p t v):Calls Tryz.prog 59 #[v] w (xas L m w):=
 wcw L hL (m.sz+1) m t (Nat.lt_succ_self _) h v w (hv.mono fun _ _=>trivial)
end Go.Proofs.YtheefiaoimbeiaaGreatDoor

/- A tree that passes Is is the tree of a term. -/
namespace Go.Proofs.YtheefiaoimbeiaaGreatDoor
open Go.RowKit
theorem uaj {t x y:Tr} (h:x ∈ t.ks) (hy:y ∈ x.list):y ∈ t.list:=by
 obtain ⟨d,ks⟩:=t;simp only [Tr.ks] at h;simp only [Tr.list,List.mem_cons];refine .inr ?_;clear d
 induction ks with
 | nil=>simp at h
 | cons z r ih =>
   simp only [jq,List.mem_append];rcases List.mem_cons.1 h with rfl | h
   · exact .inl hy
   · exact .inr (ih h)
theorem jb3 (t:Tr):t ∈ t.list:=by cases t; simp [Tr.list]
theorem jcr {l:List Tr} {b:Bool} (h:isL l b=true):∀ x ∈ l,x.is b=true:=by
 induction l with
 | nil=>simp
 | cons t r ih =>
   simp only [isL,Bool.and_eq_true] at h;intro x hx;rcases List.mem_cons.1 hx with rfl | hx
   · exact h.1
   · exact ih h.2 x hx
theorem Tr.is_open {t:Tr} {b:Bool} (h:t.is b=true):xab t.d.kind=t.ks.length/\gad t.d.kind=b/\t.d.inRange=true/\∀ x ∈ t.ks,x.is (uag t.d.kind)=true:=by
 obtain ⟨d,ks⟩:=t;simp only [Tr.is,Bool.and_eq_true,beq_iff_eq] at h;exact ⟨h.1.1.1,h.1.1.2,h.1.2,jcr h.2⟩
theorem Tr.sz_ks (t:Tr):t.sz=qw t.ks+1:=by cases t; rfl
theorem xch (L n:Nat):∀ t:Tr,t.sz < n->t.is true=true->(∀ x ∈ t.list,x.d.ds.length<=L)->∃ m,zy L m t/\m.sz=t.sz:=by
 induction n with
 | zero=>intro t h; omega
 | succ n ih =>
   intro t hn h hl;obtain ⟨h1,h2,h3,h4⟩:=Tr.is_open h;have hs:=t.sz_ks;unfold gad at h2;simp only [Bool.and_eq_true,decide_eq_true_eq] at h2;have hk:t.d.kind=1\/t.d.kind=2\/t.d.kind=3\/t.d.kind=4\/t.d.kind=5\/t.d.kind=6\/t.d.kind=7:=by omega
   have hself:=hl t (jb3 t);have two:t.ks.length=2->(∀ x ∈ t.ks,x.is true=true)->∃ x y a b,t.ks=[x,y]/\zy L a x/\zy L b y/\a.sz+b.sz+1=t.sz:=by
    intro hlen hall;obtain ⟨x,y,hxy⟩:=qbb hlen;rw [hxy] at hs hall;simp only [qw] at hs;obtain ⟨a,ha,ha2⟩:=ih x (by omega) (hall x (by simp)) (fun z hz=>hl z (uaj (by rw [hxy]; simp) hz));obtain ⟨b,hb,hb2⟩:=ih y (by omega) (hall y (by simp)) (fun z hz=>hl z (uaj (by rw [hxy]; simp) hz));exact ⟨x,y,a,b,hxy,ha,hb,by omega⟩
   have one:t.ks.length=1->(∀ x ∈ t.ks,x.is true=true)->∃ x a,t.ks=[x]/\zy L a x/\a.sz+1=t.sz:=by
    intro hlen hall;obtain ⟨x,hx⟩:=len1 hlen;rw [hx] at hs hall;simp only [qw] at hs;obtain ⟨a,ha,ha2⟩:=ih x (by omega) (hall x (by simp)) (fun z hz=>hl z (uaj (by rw [hx]; simp) hz));exact ⟨x,a,hx,ha,by omega⟩
   have zero:t.ks.length=0->t.ks=[]/\t.sz=1:=by
    intro hlen;have:=len0 hlen;rw [this] at hs;exact ⟨this,by simpa [qw] using hs⟩
   rcases hk with hk | hk | hk | hk | hk | hk | hk
   · rw [hk] at h1 h4;obtain ⟨hz,hz2⟩:=zero (by simp [xab] at h1; omega);exact ⟨.num (sgn t.d.neg (val t.d.ds)),⟨hk,hz,rfl,hself⟩,by rw [hz2]; rfl⟩
   · rw [hk] at h1 h4;obtain ⟨hz,hz2⟩:=zero (by simp [xab] at h1; omega);exact ⟨.name t.d.name,⟨hk,hz,rfl⟩,by rw [hz2]; rfl⟩
   · rw [hk] at h1 h4;obtain ⟨x,y,a,b,e,ha,hb,hsz⟩:=two (by simp [xab] at h1; omega) (by simpa [uag] using h4);exact ⟨.add a b,⟨hk,x,y,e,ha,hb⟩,hsz⟩
   · rw [hk] at h1 h4;obtain ⟨x,y,a,b,e,ha,hb,hsz⟩:=two (by simp [xab] at h1; omega) (by simpa [uag] using h4);exact ⟨.sub a b,⟨hk,x,y,e,ha,hb⟩,hsz⟩
   · rw [hk] at h1 h4;obtain ⟨x,y,a,b,e,ha,hb,hsz⟩:=two (by simp [xab] at h1; omega) (by simpa [uag] using h4);exact ⟨.mul a b,⟨hk,x,y,e,ha,hb⟩,hsz⟩
   · rw [hk] at h1 h4;obtain ⟨x,a,e,ha,hsz⟩:=one (by simp [xab] at h1; omega) (by simpa [uag] using h4);exact ⟨.neg a,⟨hk,x,e,ha⟩,hsz⟩
   · have hr:0<=t.d.exp:=by unfold Nd.inRange at h3; rw [if_pos hk] at h3; simpa using h3
     rw [hk] at h1 h4;obtain ⟨x,a,e,ha,hsz⟩:=one (by simp [xab] at h1; omega) (by simpa [uag] using h4);exact ⟨.pow a t.d.exp,⟨hk,rfl,hr,x,e,ha⟩,hsz⟩
theorem kcl {L:Nat} (t:Tr) (h:t.is true=true) (hl:∀ x ∈ t.list,x.d.ds.length<=L):∃ m,zy L m t/\m.sz=t.sz:=xch L (t.sz+1) t (Nat.lt_succ_self _) h hl
theorem Tr.list_ks (t:Tr):t.list=t :: jq t.ks:=by cases t; rfl
theorem qay {t:Tr} {n:Nat} (h:t.few n=true):t.sz<=n/\∀ x ∈ t.list,x.d.ds.length<=20:=by
 unfold Tr.few at h;simp only [Bool.and_eq_true,decide_eq_true_eq,List.all_eq_true] at h;refine ⟨t.room_le n 40 h.1,fun x hx=>?_⟩;have:=h.2 x hx;unfold Nd.ok at this;simp only [Bool.and_eq_true,decide_eq_true_eq] at this;exact this.1
end Go.Proofs.YtheefiaoimbeiaaGreatDoor
