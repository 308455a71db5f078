/- 'WholeMatching' answers true for every input, and every argument reads behind the call as it did before. No condition. -/
import Derived.Test.YtbedbfdhfokifaaGreatJBF
import Derived.Test.YtbedbfdhfokifaaGreatJBI
import Derived.Test.YtbedbfdhfokifaaGreatJBJ
import Derived.Test.YtbedbfdhfokifaaGreatJBK
import Derived.Test.YtbedbfdhfokifaaGreatJBL
import Derived.Test.YtbedbfdhfokifaaGreatRows
namespace Go.Proofs.YtbedbfdhfokifaaGreat
set_option maxRecDepth 100000
set_option maxHeartbeats 16000000
set_option linter.unusedVariables false
set_option linter.unusedSimpArgs false
open _root_.And renaming intro->cz
open _root_.Bool renaming true->ae,false->ag
open Go renaming World->Z,Calls->aF,Addr->aG,Value->aj,maxLen->bK,Ending->eG
open Go.DataW renaming TrodAll->wY
open Go.IntKind renaming i64->F
open Go.Obj renaming cells->U
open Go.Proofs.Tryz renaming prog->ak
open Go.Value renaming int->G,slice->T,bool->aA,string->av,agg->az,tuple->bG
open _root_.Option renaming none->J,some->N
open Go.RowKit
def EZ (i:Int):List aj:= [G F i]
theorem ai0 (i:Int): ∀ u∈EZ i,u.oneCell'=ae:=by
 intro u hu;simp only[EZ,iJ]at hu;subst hu
 rfl
theorem ai2:(ak.info? 3).map (λi=>(i.zero,i.size,i.bytes))=N (N (G F 0),1,8):=ai
theorem agn {items:List bI} {fb:Bool} {last acq:Int} {ms:List dz} {x:Int×List bI} (h:x∈El.all items fb last acq ms): ∃ m∈ms,x.1=m.id/\x.2.length=(El.A8 m).length/\ ∀ i∈x.2,i∈items:=by
 unfold El.all at h;obtain⟨m,hm,rfl⟩:=iW.1 h;obtain⟨hm,hh⟩:=vF.1 hm;unfold El.hit at hh;simp only[bR,ng]at hh;refine⟨m,hm,rfl,aL,λi hi=> ?_⟩;obtain⟨r,hr,rfl⟩:=iW.1 hi;exact(El.Od (El.aaY (hh.2 r hr)).1).1
def rZ (D:bN) (hl:List aM) (ms:List dz) (items:List bI) (e q:Nat) (p:Int):List (Int×List bI):=
 El.all items (kP D hl e (ax.cB D.y D.m D.p p)&&kP D hl q (ax.cB D.y D.m D.p p)) (ax.cB D.y D.m D.p p) D.ro.acquired ms
def Ry (E:List (Int×List bI)) (w:Z) (r:eG) (w':Z):Prop:=
 ∃ (v:aj) (ids:List Int),r= .returned (.tuple #[v,G F 0])/\(∀ id∈ids,∃ x∈E,x.1=id)/\ids.length<=1000/\w'.ownsRow w.heap.size 3 1 v ids.length (cellsOf EZ ids)/\Below w.heap.size w w'
def RA (E:List (Int×List bI)) (w:Z) (r:eG) (w':Z):Prop:=
 ∃ x∈E,∃ ac:Int,r= .returned (bG #[G F (El.lQ x.2),G F ac,G F 0])/\Below w.heap.size w w'
section
variable (w:Z)
theorem aiG {D:bN} {hl:List aM} {hA:Option aG} {hc:Nat} {ms:List dz} {mA:Option aG} {mc:Nat} {bA:Int} {e q:Nat} (B:En D hl hA hc ms mA mc bA e q) {items:List bI} {iA:Option aG} (dM:yU D hl hA ms mA items iA w) (hil:items.length<=100000) (hwf: ∀ i∈items,Wf i.ref.entry/\Wf i.ref.line) (ic:Nat) (p:Int) (hce:ax.bJ D.y D.m D.p p=0):
 aF ak 13 #[az D.aH,T iA items.length ic,G F p] w (Ry (rZ D hl ms items e q p) w):=by
 have HB:=I B;have ZX:ms.length<=1000:=dM.mi.few;have h27:(ak.info? 36).map (·.size)=N 27:=ai;have hbz:(ak.info? 36).map (·.size)=N D.aH.size:=by rw[HB.out.is.size];kernel_rfl
 have hb1:Below w.heap.size w (w.alloc (U D.aH 36)):=(aD _ _).alloc (aC _) _;have df:=I (au.new w 36 D.aH);have KN:=I (aae (w.alloc (U D.aH 36)) B (dM.step ((aD _ _).alloc (aC _) _)) hil hwf ic p hce);have KA:=I (λ(W:Z) (fb mb n:Nat) (bf:xL D items (w.alloc (U D.aH 36)) W fb mb n (ax.pG D.y D.m D.p p) (ax.cB D.y D.m D.p p))=>aad W B (dM.step ((aD _ _).alloc (aC _) _)) bf);unfold Nv at KA;have F7:Hid ((rZ D hl ms items e q p).length<=1000):=I (by have:=El.R5 items (kP D hl e (ax.cB D.y D.m D.p p)&&kP D hl q (ax.cB D.y D.m D.p p)) (ax.cB D.y D.m D.p p) D.ro.acquired ms;unfold rZ;omega);have J7:El.all items (kP D hl e (ax.cB D.y D.m D.p p)&&kP D hl q (ax.cB D.y D.m D.p p)) (ax.cB D.y D.m D.p p) D.ro.acquired ms=rZ D hl ms items e q p:=rfl;rw[J7]at KA;clear J7 B dM hwf hce;generalize rZ D hl ms items e q p=E at*;obtain⟨Fw,hi1,EW,EX,EY⟩:=jh ai2;unfold Ry;go_enter Tryz.func13,Tryz.ntmps13;go_upto_region 1 with fail
 generalize w.alloc (U D.aH 36)=w1 at*;go_upto_region 2 with (first
  |(refine gP rfl 36 (.tmp 3) rfl w.heap.size 0 rfl D.aH (jF df.out) jB 27 h27 HB.out.is.size ?_)
  |(go_at_call 40;refine KN.out.mono ?_;rintro r w2 ⟨fb,mb,n,rfl,hF⟩))
 have hb2:=hb1.trans (hF.below.mono hb1.size);have Ad:=I (KA.out w2 fb mb n hF);clear hF KA KN df hb1;go_upto_region 6 with (go_at_call 41;refine Ad.out.mono ?_;rintro r w3 ⟨v,l,rfl,hp,hor,hit,ah⟩;obtain⟨A3,c3,rfl,-⟩:=Rd.dE hor;have hb3:=ay hb2 ah;have HP:=I hp;have jq:=I (oO hor hb2.size);clear hp hor hit ah)
 clear Ad hb2;have hln:l.length<=1000:=by have h1:=HP.out.length_eq;have h2:=F7.out;rw[pM]at h1;omega
 have xy:Hid (∀ x∈l,∃ y∈E,y.1=x.id):=I (λx hx=>⟨Co x,HP.out.mem_iff.1 (iW.2 ⟨x,hx,rfl⟩),rfl⟩);go_loopw [10,26] (λv t wr=> ∃ (k:Nat) (ids:List Int),k<=l.length/\t= G F k/\(∀ id∈ids,∃ x∈E,x.1=id)/\ids.length<=k/\wr.ownsRow w.heap.size 3 1 v ids.length (cellsOf EZ ids)/\wr.ownsRow w.heap.size 122 3 (T A3 l.length c3) l.length (cellsOf gV.cells l)/\Below w.heap.size w wr) (λ_ t _=>l.length - (intOf t).toNat)
 case atStart=>exact⟨0,[],O,rfl,aL,aL,jZ _ _ _ _,jq.out,hb3⟩
 case round=>
  clear jq hb3;obtain⟨k,ids,hk,rfl,hid,aih,ho,hor,hb⟩:=hrel;have M9:=I hid;have HO:=I ho;have oZ:=I hor;have hz:=hb.size;clear hid ho hor
  by_cases hlt:k<l.length
  ·obtain⟨b,o,hA,aX,f0,f1,f2⟩:=gV.at_ (by obtain⟨A',c',he',hr'⟩:=Rd.dE oZ.out;injection he' with e1 e2 e3;subst e1;exact hr') hlt;subst hA;have Rv:=I (xy.out _ (bP hlt));generalize l[k]=x at*;obtain⟨id,le,⟨L,A,c⟩⟩:=x;unfold Sl.val at f2;dsimp only at*;have hst:=(aD wr.heap.size wr).alloc (aC _) (U #[G F id,G F le,T A L.length c] 122);have uG:=I (au.new wr 122 #[G F id,G F le,T A L.length c]);have gm:=I (dF HO.out hst);have yQ:=I (dF oZ.out hst);have hb1:=ay hb hst;go_upto_region 8 with fail
   clear f0 f1 f2 hst HO oZ;generalize wr.alloc (U #[G F id,G F le,T A L.length c] 122)=W1 at*;have y0:W1.cell? ⟨wr.heap.size,0,J⟩=N (G F id):=uG.out.cell 0;have hz1:=hb1.size;have qU:=(aD W1.heap.size W1).alloc (aC _) (U #[G F id] 3);have ko:=I (dF gm.out qU);have Jd:=I (dF yQ.out qU);have hb4:=ay hb1 qU;clear gm yQ qU;go_wp2_with (at_builtin;refine yw EZ 1 (λ_=>rfl) ai0 rfl (.tmp 30) (.tmp 33) 60 rfl w.heap.size 3 Fw (G F 0) 8 Bj hi1 EW EX EY rfl aJ _ ids rfl ko.out W1.heap.size 1 id #[G F id] rfl (au.new W1 _ _) rfl fQ O bL ?_;intro v9 w9 uf mR;have rM:=I uf;have Ra:=I (AV Jd.out ko.out aJ mR);have tV:=iI hb4 hb4.size ko.out mR;clear uf mR ko Jd);have acV:Hid (∀ i∈ids++ [id],∃ x∈E,x.1=i):=I (λi hi=>by
    rcases il.1 hi with h|h
    ·exact M9.out i h
    ·rw[iJ.1 h];exact Rv.out)
   go_roundw
   case rel=>exact⟨k+1,_,O,by go_num,acV.out,bL,rM.out,Ra.out,tV⟩
   case measure=>simp[intOf];omega
  ·go_wp2_with fail;go_ret2;exact⟨_,ids,rfl,M9.out,O,HO.out,hb⟩
end
section
variable (w:Z)
theorem aiL {D:bN} {hl:List aM} {hA:Option aG} {hc:Nat} {ms:List dz} {mA:Option aG} {mc:Nat} {bA:Int} {e q:Nat} (B:En D hl hA hc ms mA mc bA e q) {items:List bI} {iA:Option aG} (dM:yU D hl hA ms mA items iA w) (hil:items.length<=100000) (hwf: ∀ i∈items,Wf i.ref.entry/\Wf i.ref.line) (kQ: ∀ i∈items,-1000000000000<=i.amount/\i.amount<=1000000000000) (ic:Nat) (id p:Int) (hce:ax.bJ D.y D.m D.p p=0) (hid: ∃ x∈rZ D hl ms items e q p,x.1=id):
 aF ak 14 #[az D.aH,T iA items.length ic,G F id,G F p] w (RA (rZ D hl ms items e q p) w):=by
 have HB:=I B;have ZX:ms.length<=1000:=dM.mi.few;have h27:(ak.info? 36).map (·.size)=N 27:=ai;have hbz:(ak.info? 36).map (·.size)=N D.aH.size:=by rw[HB.out.is.size];kernel_rfl
 have hb1:Below w.heap.size w (w.alloc (U D.aH 36)):=(aD _ _).alloc (aC _) _;have df:=I (au.new w 36 D.aH);have KN:=I (aae (w.alloc (U D.aH 36)) B (dM.step ((aD _ _).alloc (aC _) _)) hil hwf ic p hce);have KA:=I (λ(W:Z) (fb mb n:Nat) (bf:xL D items (w.alloc (U D.aH 36)) W fb mb n (ax.pG D.y D.m D.p p) (ax.cB D.y D.m D.p p))=>aad W B (dM.step ((aD _ _).alloc (aC _) _)) bf);unfold Nv at KA;have F7:Hid (∀ x∈rZ D hl ms items e q p,x.2.length<=24/\ ∀ i∈x.2,-1000000000000<=i.amount/\i.amount<=1000000000000):=I (λx hx=>by
  obtain⟨m,hm,h1,h2,h3⟩:=agn hx;have hm1:=B.ok.ok m hm;refine⟨?_,λi hi=>kQ i (h3 i hi)⟩;rw[h2];unfold El.A8;rw[fK];have h4:=hm1.ll.2;have h5:=hm1.lr.2;omega)
 have BH:Hid ((rZ D hl ms items e q p).length<=1000):=I (by have:=El.R5 items (kP D hl e (ax.cB D.y D.m D.p p)&&kP D hl q (ax.cB D.y D.m D.p p)) (ax.cB D.y D.m D.p p) D.ro.acquired ms;unfold rZ;omega);have KR:=I (λ(W:Z) (w0:Z) (fb mb n:Nat) (bf:xL D items w0 W fb mb n (ax.pG D.y D.m D.p p) (ax.cB D.y D.m D.p p)) (x:gV) hx h1 h2=>aiK W HB.out.is bf x hx h1 h2);have J7:El.all items (kP D hl e (ax.cB D.y D.m D.p p)&&kP D hl q (ax.cB D.y D.m D.p p)) (ax.cB D.y D.m D.p p) D.ro.acquired ms=rZ D hl ms items e q p:=rfl;rw[J7]at KA;clear J7 B dM hwf hce kQ;generalize rZ D hl ms items e q p=E at*;generalize ax.pG D.y D.m D.p p=fi at*;generalize ax.cB D.y D.m D.p p=la at*;have Wq:=I hid;clear hid;unfold RA;go_enter Tryz.func14,Tryz.ntmps14;go_upto_region 1 with fail
 generalize hgw:w.alloc (U D.aH 36)=w1 at*;clear hgw;go_upto_region 2 with (first
  |(refine gP rfl 36 (.tmp 4) rfl w.heap.size 0 rfl D.aH (jF df.out) jB 27 h27 HB.out.is.size ?_)
  |(go_at_call 40;refine KN.out.mono ?_;rintro r w2 ⟨fb,mb,n,rfl,hF⟩))
 have hb2:=hb1.trans (hF.below.mono hb1.size);have Ad:=I (KA.out w2 fb mb n hF);have tq:=I hF;clear hF KA KN df hb1;go_upto_region 5 with (go_at_call 41;refine Ad.out.mono ?_;rintro r w3 ⟨v,l,rfl,hp,hor,hit,ah⟩;obtain⟨A3,c3,rfl,-⟩:=Rd.dE hor;have lF:=I (tq.out.step ah);have hb3:=ay hb2 ah;have HP:=I hp;have HIT:=I hit;have jq:=I hor;clear hp hor hit ah)
 clear Ad hb2 tq;have hln:l.length<=1000:=by have h1:=HP.out.length_eq;have h2:=BH.out;rw[pM]at h1;omega
 have acX:Hid (∀ x∈l,Co x∈E):=I (λx hx=>HP.out.mem_iff.1 (iW.2 ⟨x,hx,rfl⟩));have adK:Hid (∃ k,∃ hk:k<l.length,l[k].id=id):=I (by
  obtain⟨x,hx,h1⟩:=Wq.out;obtain⟨y,hy,h2⟩:=iW.1 (HP.out.mem_iff.2 hx);obtain⟨k,hk,h3⟩:=iK.1 hy;exact⟨k,hk,by rw[h3,<- h1,<- h2];rfl⟩)
 clear HP Wq BH;go_loopw [27] (λt wr=> ∃ k:Nat,k<=l.length/\t= G F k/\(∀ j (h:j<k) (h2:j<l.length),(l[j]'h2).id≠id)/\Below w3.heap.size w3 wr) (λt _=>l.length - (intOf t).toNat)
 case atStart=>exact⟨0,O,rfl,λj h=>O,aD _ _⟩
 case round=>
  obtain⟨k,hk,rfl,hno,hb⟩:=hrel;have eH:=I hno;clear hno
  by_cases hlt:k<l.length
  ·obtain⟨b,o,hA,aX,f0,f1,f2⟩:=gV.at_ (by obtain⟨A',c',he',hr'⟩:=Rd.dE (dF jq.out hb);injection he' with e1 e2 e3;subst e1;exact hr') hlt;subst hA;have uF:=I (acX.out _ (bP hlt));have Rv:=I (HIT.out _ (bP hlt));have xE:Hid (l[k].id≠id-> ∀ j (h:j<k+1) (h2:j<l.length),(l[j]'h2).id≠id):=I (λh0 j h h2=>by
    by_cases hjk:j=k
    ·subst hjk;exact h0
    ·exact eH.out j O h2)
   generalize l[k]=x at*;obtain⟨xi,le,⟨L,A,c⟩⟩:=x;unfold Sl.val at f2;dsimp only at*;have hst:=(aD wr.heap.size wr).alloc (aC _) (U #[G F xi,G F le,T A L.length c] 122);have uG:=I (au.new wr 122 #[G F xi,G F le,T A L.length c]);have hb1:=ay hb hst;go_upto_region 7 with fail
   clear f0 f1 f2 hst;generalize wr.alloc (U #[G F xi,G F le,T A L.length c] 122)=W1 at*;have y0:W1.cell? ⟨wr.heap.size,0,J⟩=N (G F xi):=uG.out.cell 0
   cases hq:(xi==id)
   ·have hne:=xE.out (by simpa using hq);go_wp2_with fail;go_roundw
    case rel=>exact⟨k+1,O,by go_num,hne,hb1⟩
    case measure=>simp[intOf];omega
   ·have RP:=I (KR.out W1 _ fb mb n (lF.out.step hb1) ⟨xi,le,⟨L,A,c⟩⟩ ((Fg Rv.out hb1).lies.1) (by have:=(F7.out _ uF.out).1;unfold Co at this;dsimp only at this |-;omega) (F7.out _ uF.out).2);unfold gV.cells Sl.val at RP;dsimp only at RP;go_wp2_with (first
     |(refine gP rfl 122 (.tmp 13) rfl wr.heap.size 0 rfl #[G F xi,G F le,T A L.length c] (jF uG.out) Bo 3 r9 rfl ?_)
     |(go_at_call 42;refine RP.out.mono ?_;rintro r w5 ⟨ac,rfl,ah⟩;have hb5:=ay hb3 (ay hb1 ah);clear ah))
    go_ret3;exact⟨_,uF.out,ac,rfl,hb5⟩
  ·exfalso;obtain⟨j,hj,h1⟩:=adK.out;exact eH.out j O hj h1
end
def bN.mt (D:bN) (v:aj):bN:=⟨D.aH.setIfInBounds 24 v,D.aB,D.cur,D.y,D.m,D.p,D.cl,D.cA,D.cc,D.ro,D.el,D.eA,D.ec,D.es,D.sA,D.sc,D.rl,D.rA,D.rc⟩
section
variable {D:bN} {v v':aj}
theorem Dc {j:Nat} (h:j≠24):(D.mt v).aH[j]? =D.aH[j]? :=by
 unfold bN.mt;exact PZ (pK h)
theorem uq (h:D.Is):(D.mt v).Is:=⟨h.HG,by unfold bN.mt;simp[h.size],λj hj=>(Dc O).trans (h.ik j hj),(Dc aJ).trans h.si,(Dc aJ).trans h.rat,h.few,h.ze,h.gv,h.jv,h.rv,h.Hr⟩
theorem UD {w:Z} (h:D.In w):(D.mt v).In w:=⟨h.xU,h.nG,h.Fs⟩
theorem Ll (h:D.Is):(D.mt v).aH[24]? =N v:=by
 unfold bN.mt;exact FV (by rw[h.size];decide)
theorem akw:(D.mt v).aH.setIfInBounds 24 v'=(D.mt v').aH:=by
 unfold bN.mt;simp
end
def XJ (D:bN) (e q p:Int) (w:Z) (r:eG) (w':Z):Prop:=Below w.heap.size w w'/\
 ∃ (A:Option aG) (c:Nat) (L:List bH) (b:Bool),r= .returned (bG #[T A L.length c,aA b])/\w'.ownsRow w.heap.size 74 3 (T A L.length c) L.length (cellsOf bH.cells L)/\L.length<=60/\(∀ o∈L,Wf o.ref.entry/\Wf o.ref.line)/\
  (b=ae->ax.bJ D.y D.m D.p p=0/\ ∀ o∈L,Wh.rT (D.env p) D.el D.es (ax.cB D.y D.m D.p p) e q o)
theorem ak5 (w:Z) (D:bN) (hD:D.Is) (hI:D.In w) (ms:List dz) (mA:Option aG) (mc:Nat) (lK:D.aH[24]? =N (T mA ms.length mc)) (hM:tN w ms mA) (e q p:Int):
 aF ak 8 #[az D.aH,G F e,G F q,G F p] w (XJ D e q p w):=by
 refine(ak6 w D hD hI ms mA mc lK hM e q p).mono ?_;rintro r w' ⟨hb,rfl|⟨h1,v,L,rfl,h2,h3,h4⟩⟩
 ·exact⟨hb,J,0,[],ag,rfl,jZ _ _ _ _,aL,aL,λh=>by cases h⟩
 ·obtain⟨A,c,rfl,-⟩:=Rd.dE h2;exact⟨hb,A,c,L,ae,rfl,h2,h4,λo ho=>C8 hI.nG (h3 o ho).1,λ_=>⟨h1,h3⟩⟩
theorem aku (w:Z):tN w [] J:=⟨⟨rfl,λh=>absurd h aL⟩,aL,aL,aL⟩
theorem ao0 {n:Int} (h:Wf n): -9223372036854775808<=n/\n<=9223372036854775807:=by
 have h2:F.min<=n/\n<=F.max:=by
  unfold Wf Lit.wf at h;rw[bR]at h;exact⟨iY h.1,iY h.2⟩
 have h3:F.min= -9223372036854775808:=aJ;have h4:F.max=9223372036854775807:=aJ;omega
theorem afA {n r a:Int} (hr:1<=r) (h:Rt.conv n r=N a): -1000000000000<=a/\a<=1000000000000:=by
 unfold Rt.conv at h;simp only at h
 split at h
 ·cases h
 ·split at h
  ·rename_i h1;have h2:(0:Int)<=(n.natAbs:Int)*(r / 1000000):=IA O O;have h3:(0:Int)<=2*(n.natAbs:Int)*(r % 1000000):=IA O O;generalize (n.natAbs:Int)*(r / 1000000)=x at*;generalize 2*(n.natAbs:Int)*(r % 1000000)=z at*;have h4:0<=(z+1000000) / 2000000:=O;generalize (z+1000000) / 2000000=u at*;injection h with h
   split at h<;>omega
  ·cases h
theorem ajd {D:bN} (hD:D.Is) {q:Int} {en:Nat} {x:aI} {l:bq} {k:Int} {i:bI} (h:(D.env q).item (D.el.getD en default) x l k=N i): -1000000000000<=i.amount/\i.amount<=1000000000000:=by
 rw[YB]at h;simp only[VG]at h;obtain⟨⟨m,v⟩,h1,a,h2,h3⟩:=h;have hb:=afA (abN hD h1).1 h2;dsimp only at h3
 split at h3
 ·obtain rfl:=uz h3;exact hb
 ·cases h3
theorem ajf {D:bN} (hD:D.Is) {w:Z} (hI:D.In w) {q:Int} {i:bI} (h:El.vY (D.env q) D.el D.es i):(Wf i.ref.entry/\Wf i.ref.line)/\(-1000000000000<=i.amount/\i.amount<=1000000000000):=by
 obtain⟨y,hy,j,hj,h1⟩:=h;refine⟨?_,ajd hD h1⟩;have h2:=(El.aak h1).1;rw[h2];have:=hI.nG.ln y hy;exact⟨(hI.nG.ok y hy).1,LV (by dsimp only;omega) (by dsimp only;omega)⟩
theorem ahd {es:List aI} {y:aI} (h:y∈es):0<=Jn.sD es y.id:=by
 unfold Jn.sD
 cases hg:Jn.get es y.id with
 |some k=>dsimp only;omega
 |none=>
  unfold Jn.get at hg;rw[Io]at hg;have:=hg y h;simp at this
structure kM (D:bN) (w:Z) (pr:Array aj) (oA:Option aG) (oc:Nat) (out:List dK) (vM:aj) (M:List dz) (wr:Z):Prop where
 ay:Below w.heap.size w wr
 oK:au wr w.heap.size 36 (D.mt vM).aH
 par:au wr (w.heap.size+1) 38 pr
 own:wr.ownsRow w.heap.size 58 4 vM M.length (cellsOf dz.cells M)
 row:wr.ownsRow w.heap.size 56 2 (T oA out.length oc) out.length (cellsOf dK.cells out)
 oM: ∀ p∈out,pE wr w.heap.size p.left/\pE wr w.heap.size p.right
section
variable {D:bN} {w wr w':Z} {pr:Array aj} {oA:Option aG} {oc:Nat} {out:List dK} {vM v':aj} {M M':List dz}
theorem kM.step (h:kM D w pr oA oc out vM M wr) (hb:Below wr.heap.size wr w'):kM D w pr oA oc out vM M w':=
 ⟨h.ay.trans (hb.mono h.ay.size),h.oK.step hb,h.par.step hb,dF h.own hb,dF h.row hb,λp hp=>⟨(h.oM p hp).1.step hb,(h.oM p hp).2.step hb⟩⟩
theorem kM.beside (h:kM D w pr oA oc out vM M wr) {E:TypeId} {sz:Nat} {v2:aj} {n:Nat} {ys:List aj} (hr:wr.ownsRow w.heap.size E sz v2 n ys) (h1:36≠E) (h2:38≠E) (h3:58≠E) (h4:56≠E) (h5:70≠E) (hg:wr.grownBy w' v2.ownBlock):kM D w pr oA oc out vM M w':=
 ⟨iI h.ay h.ay.size hr hg,h.oK.grown hg (gF hr h.oK h1),h.par.grown hg (gF hr h.par h2),AV h.own hr h3 hg,AV h.row hr h4 hg,
  λp hp=>⟨(h.oM p hp).1.keep λg cs hB=>hB.grown hg (gF hr hB h5),(h.oM p hp).2.keep λg cs hB=>hB.grown hg (gF hr hB h5)⟩⟩
theorem kM.more (h:kM D w pr oA oc out vM M wr) (hg:wr.grownBy w' vM.ownBlock) (ho:w'.ownsRow w.heap.size 58 4 v' M'.length (cellsOf dz.cells M')):kM D w pr oA oc out v' M' (w'.setCell ⟨w.heap.size,24,J⟩ v'):=by
 have h1:au w' w.heap.size 36 (D.mt vM).aH:=h.oK.grown hg (gF h.own h.oK aJ);have h2:au w' (w.heap.size+1) 38 pr:=h.par.grown hg (gF h.own h.par aJ);refine⟨(iI h.ay h.ay.size h.own hg).setCell (p:=⟨w.heap.size,24,J⟩) (aC _) v',by have:=h1.bZ 24 v';rwa [akw]at this,h2.far (p:=⟨w.heap.size,24,J⟩) (by show w.heap.size+1≠w.heap.size;omega) v',?_,?_,λp hp=>⟨?_,?_⟩⟩
 ·exact qf ho λg cs hB=>hB.far (p:=⟨w.heap.size,24,J⟩) (hB.ne h1 aJ) v'
 ·exact qf (AV h.row h.own aJ hg) λg cs hB=>hB.far (p:=⟨w.heap.size,24,J⟩) (hB.ne h1 aJ) v'
 ·exact(h.oM p hp).1.keep λg cs hB=>(hB.grown hg (gF h.own hB aJ)).far (p:=⟨w.heap.size,24,J⟩) ((hB.grown hg (gF h.own hB aJ)).ne h1 aJ) v'
 ·exact(h.oM p hp).2.keep λg cs hB=>(hB.grown hg (gF h.own hB aJ)).far (p:=⟨w.heap.size,24,J⟩) ((hB.grown hg (gF h.own hB aJ)).ne h1 aJ) v'
end
theorem aky {out:List dK} {k:Nat} {m:dz} (h:m∈Wh.iP out k):m.id<=(k:Int)+out.length:=by
 induction out generalizing k with
 |nil=>simp[Wh.iP]at h
 |cons p t ih=>
  rcases fT.1 h with rfl|h
  ·simp only[gX];omega
  ·have:=ih h;simp only[gX];omega
theorem akA (out:List dK) (k:Nat) (hk:k<out.length):(Wh.iP out 0).take (k+1)=(Wh.iP out 0).take k++ [⟨(k:Int)+1,out[k].left,out[k].right,4⟩]:=by
 have h:=Wh.akx out k hk;have hl:k<(Wh.iP out 0).length:=by rw[Wh.Lm];exact hk
 rw[gY hl];rw[rq hl]at h;rw[uz h]
theorem aka {D:bN} {w W w3:Z} {pr:Array aj} {oA:Option aG} {oc:Nat} {out:List dK} {mA:Option aG} {mc:Nat} {E:It.Env} {el:List aY} {es:List aI} {sA:Option aG} {bA e q aZ:Int} {L R:List bH} {u v:List Bool}
 (h:kM D w pr oA oc out (T mA (Wh.iP out 0).length mc) (Wh.iP out 0) W) (hE:kL w3 es sA) (hLn:L.length<=60) (hI:Mt.Inv L R aZ u v (Mt.nJ out)) (hL: ∀ o∈L,Wh.rT E el es bA e q o) (hR: ∀ o∈R,Wh.rT E el es bA q e o):tN W (Wh.iP out 0) mA:=by
 have CQ:out.length<=60:=by
  have:=hI.few;unfold Mt.nJ at this;rw[pM]at this;omega
 refine⟨?_,λm hm=> ?_,λm hm=> ?_,by rw[Wh.Lm];omega⟩
 ·obtain⟨A,c,he,hr⟩:=Rd.dE h.own;injection he with e1 e2 e3
  rw[e1];exact hr
 ·obtain⟨h1,h2,p,h3,h4,h5⟩:=Wh.Fa hm;have h6:=aky hm;have hs:=Wh.LK hI hL hR h3;have hl:=h.oM p h3;refine⟨LV O O,⟨⟨?_,trivial⟩,λy hy=> ?_⟩,⟨⟨?_,trivial⟩,λy hy=> ?_⟩,by rw[h2];decide⟩
  ·rw[h4];exact hl.1.rd aO.len
  ·exact C8 hE (hs.1 y (h4 ▸ hy)).2
  ·rw[h5];exact hl.2.rd aO.len
  ·exact C8 hE (hs.2 y (h5 ▸ hy)).2
 ·obtain⟨h1,h2,p,h3,h4,h5⟩:=Wh.Fa hm;have hne:=hI.ne (p.left.l,p.right.l) (iW.2 ⟨p,h3,rfl⟩);dsimp only at hne;rw[h4,h5];omega
theorem ajp {V:Bool} {n:Int} {K:Int->Int->Bool} {D:Int->Bool} {es:List aI} (h:qW V n K D es=ae):V=ae:=by
 unfold qW at h;simp only[bR]at h;exact h.1
section
variable (aH:Array aj) (cur:ByteArray) (y m p:Int) (cl:List Acc) (cA:Option aG) (cc:Nat) (ro:dZ) (el:List aY) (eA:Option aG) (ec:Nat) (w:Z)
theorem ajR (es:List aI) (sA:Option aG) (sc:Nat) (rl:List aW) (rA:Option aG) (rc:Nat) (h3:IC aH cur y m p cl cA cc ro el eA ec es.length sA sc rl.length rA rc) (h:eB w cl cA el eA) (gT:cur.size<=bK) (hcl:cl.length<=bK) (hel:el.length<=bK) (hr:Rd w w.heap.size 7 sA es.length (cellsOf aI.cells es)) (hok: ∀ x∈es,x.Ok w) (hes:es.length<=bK) (hsc:es.length<=sc)
 (hrr:Rd w w.heap.size 4 rA rl.length (cellsOf aW.cells rl)) (hrw: ∀ r∈rl,r.cK.size<=bK/\Wf r.kind/\Wf r.eF) (hl:List aM) (hA:Option aG) (hc:Nat) (h23:aH[23]? =N (T hA hl.length hc)) (TJ:Rd w w.heap.size 4 hA hl.length (cellsOf aM.cells hl)) (ZJ: ∀ r∈hl,Wf r.holder/\Wf r.bF/\Wf r.date) (lK: ∃ v,aH[24]? =N v)
 (l r q aZ:Int) (hwt:Wf aZ):
 aF ak 3 #[az aH,az #[G F l,G F r,G F q,G F aZ]] w (λe w'=>e= .returned (aA ae)/\Below w.heap.size w w'):=by
 have H3:=I h3;have Br:=I h23;have VN:=I lK;have h27:(ak.info? 36).map (·.size)=N 27:=ai;have hbz:(ak.info? 36).map (·.size)=N aH.size:=by rw[H3.out.size];kernel_rfl
 have KF:=I (λ(W:Z) (hb:Below w.heap.size w W)=>agF aH cur y m p cl cA cc ro el eA ec W es sA sc rl.length rA rc h3 (h.step hb) gT hcl hel (Rd.now hr hb) (λx hx=>(hok x hx).step hb) hes);have RQ:=I (λ(hF:MR cur cl el es) (hrn:rl.length<=300) (W:Z) (hb:Below w.heap.size w W)=>aoS aH cur y m p cl cA cc ro el eA ec W es sA sc rl rA rc h3 (h.step hb) hF.ik ⟨Rd.now hr hb,λx hx=>(hok x hx).step hb,λx hx=>(hF.each x hx).ln,λx hx=>(hF.each x hx).am⟩ (by have:=hF.len;omega) hsc (Rd.now hrr hb) (λx hx=>(hrw x hx).1) hrn);have KH:=I (λ(hn:hl.length<=30) (W:Z) (hb:Below w.heap.size w W)=>ahu el.length hl hA hc W (Rd.now TJ hb) hn);have xy:=I (λ(hF:MR cur cl el es)=>(⟨h,⟨hr,hok,λx hx=>(hF.each x hx).ln,λx hx=>(hF.each x hx).am⟩,hrr⟩:bN.In ⟨aH,kF cur y m p cl.length cA cc ro el.length eA ec,cur,y,m,p,cl,cA,cc,ro,el,eA,ec,es,sA,sc,rl,rA,rc⟩ w));have Wl:=I (cz TJ ZJ);have HRW:=I hrw;unfold Jy at KF;unfold fD at RQ KH;have hb1:Below w.heap.size w ((w.alloc (U aH 36)).alloc (U #[G F l,G F r,G F q,G F aZ] 38)):=((aD _ _).alloc (aC _) _).alloc aL _;have df:=I ((au.new w 36 aH).alloc (U #[G F l,G F r,G F q,G F aZ] 38));have nO:=I (eT w (U aH 36) 38 #[G F l,G F r,G F q,G F aZ]);clear h3 h23 lK h hr hok hrr hrw TJ ZJ gT hcl hel hes hsc;go_enter Tryz.func3,Tryz.ntmps3;go_upto_region 1 with fail
 generalize (w.alloc (U aH 36)).alloc (U #[G F l,G F r,G F q,G F aZ] 38)=w1 at*
 cases YV:decide ((30:Int)<(hl.length:Int))
 case true=>
  go_wp2_with (first
   |(go_at_call 4;refine(NP w1).mono ?_;rintro r' w2 ⟨rfl,ah⟩;have hb2:=ay hb1 ah;have dn:=I (df.out.step ah);clear hb1)
   |(refine LX rfl 36 (.tmp 2) rfl w.heap.size 0 rfl aH (jF dn.out) jB 27 h27 H3.out.size ?_)
   |(go_at_call 5;refine(KF.out w2 hb2).mono ?_;rintro r' w3 ⟨b,rfl,tV,hq⟩;have hb3:=ay hb2 tV;have c23:w3.cell? ⟨w.heap.size,23,J⟩=N (T hA hl.length hc):=((dn.out.step tV).cell 23).trans Br.out;clear hq;cases b)
   |(go_at_call 4;refine(NP w3).mono ?_;rintro r' w4 ⟨rfl,ah⟩;have hb4:=ay hb3 ah))
  all_goals go_ret
  all_goals exact⟨rfl,hb4⟩
 case false=>
  go_upto_region 3 with (first
   |(go_at_call 4;refine(NP w1).mono ?_;rintro r' w2 ⟨rfl,ah⟩;have hb2:=ay hb1 ah;have dn:=I (df.out.step ah);have oH:=I (nO.out.step ah);clear hb1 ah)
   |(refine LX rfl 36 (.tmp 2) rfl w.heap.size 0 rfl aH (jF dn.out) jB 27 h27 H3.out.size ?_)
   |(go_at_call 5;refine(KF.out w2 hb2).mono ?_;rintro r' w3 ⟨b,rfl,ah,hq⟩;have hb3:=ay hb2 ah;have jO:=I (dn.out.step ah);have aP:=I (oH.out.step ah);have c23:w3.cell? ⟨w.heap.size,23,J⟩=N (T hA hl.length hc):=(jO.out.cell 23).trans Br.out;have HQ:=I hq;clear hq ah;cases b)
   |(go_at_call 4;refine(NP w3).mono ?_;rintro r' w4 ⟨rfl,ah⟩;have hb4:=ay hb3 ah))
  ·go_ret;exact⟨rfl,hb4⟩
  clear c23 KF df nO dn oH hb2;obtain⟨Oq,hrl⟩:=HQ.out aL;have M3:=I Oq;have ZI:hl.length<=30:=by have:=j3 YV;omega
  have BP:=RQ.out Oq hrl;have RG:=KH.out ZI;obtain⟨V1,hV1⟩: ∃ V,Hid (V=(qW (Gr.gv cur cl ro el (ax.ok y m p)) el.length (Jn.kB el) (Jn.dB y m p) es&&Rt.valid cur rl)):=⟨_,I rfl⟩;obtain⟨V2,hV2⟩: ∃ V,Hid (V=aT.valid el.length hl):=⟨_,I rfl⟩;rw[<- hV1.out]at BP;rw[<- hV2.out]at RG;have KV:=I BP;have KH:=I RG;have hHI:=xy.out Oq;have Wj:=I hHI;clear RQ BP RG Oq hHI xy YV HQ;go_wp2_with (refine gP rfl 36 (.tmp 2) rfl w.heap.size 0 rfl aH (jF jO.out) jB 27 h27 H3.out.size ?_)
  cases V1
  case false=>
   go_wp2_with (first|(go_at_call 6;refine(KV.out w3 hb3).mono ?_;rintro r' w4 ⟨rfl,ah⟩;have hb4:=ay hb3 ah;have gL:=I (jO.out.step ah);have kU:=I (aP.out.step ah);have c20:w4.cell? ⟨w.heap.size,20,J⟩=N (T eA el.length ec):=(gL.out.cell 20).trans ((H3.out.ik 20 O).trans rfl);have c23:w4.cell? ⟨w.heap.size,23,J⟩=N (T hA hl.length hc):=(gL.out.cell 23).trans Br.out;clear ah)|(go_at_call 7;refine(KH.out w4 hb4).mono ?_;rintro r' w5 ⟨rfl,ah⟩;have hb5:=ay hb4 ah;have gN:=I (gL.out.step ah);have mP:=I (kU.out.step ah);clear c20 c23;have c20:w5.cell? ⟨w.heap.size,20,J⟩=N (T eA el.length ec):=(gN.out.cell 20).trans ((H3.out.ik 20 O).trans rfl);have p0:w5.cell? ⟨w.heap.size+1,0,J⟩=N (G F l):=mP.out.cell 0;have p1:w5.cell? ⟨w.heap.size+1,1,J⟩=N (G F r):=mP.out.cell 1;clear ah));go_ret;exact⟨rfl,hb4⟩
  cases V2
  case false=>
   go_wp2_with (first|(go_at_call 6;refine(KV.out w3 hb3).mono ?_;rintro r' w4 ⟨rfl,ah⟩;have hb4:=ay hb3 ah;have gL:=I (jO.out.step ah);have kU:=I (aP.out.step ah);have c20:w4.cell? ⟨w.heap.size,20,J⟩=N (T eA el.length ec):=(gL.out.cell 20).trans ((H3.out.ik 20 O).trans rfl);have c23:w4.cell? ⟨w.heap.size,23,J⟩=N (T hA hl.length hc):=(gL.out.cell 23).trans Br.out;clear ah)|(go_at_call 7;refine(KH.out w4 hb4).mono ?_;rintro r' w5 ⟨rfl,ah⟩;have hb5:=ay hb4 ah;have gN:=I (gL.out.step ah);have mP:=I (kU.out.step ah);clear c20 c23;have c20:w5.cell? ⟨w.heap.size,20,J⟩=N (T eA el.length ec):=(gN.out.cell 20).trans ((H3.out.ik 20 O).trans rfl);have p0:w5.cell? ⟨w.heap.size+1,0,J⟩=N (G F l):=mP.out.cell 0;have p1:w5.cell? ⟨w.heap.size+1,1,J⟩=N (G F r):=mP.out.cell 1;clear ah));go_ret;exact⟨rfl,hb5⟩
  cases e1:(l==r)
  case true=>
   go_wp2_with (first|(go_at_call 6;refine(KV.out w3 hb3).mono ?_;rintro r' w4 ⟨rfl,ah⟩;have hb4:=ay hb3 ah;have gL:=I (jO.out.step ah);have kU:=I (aP.out.step ah);have c20:w4.cell? ⟨w.heap.size,20,J⟩=N (T eA el.length ec):=(gL.out.cell 20).trans ((H3.out.ik 20 O).trans rfl);have c23:w4.cell? ⟨w.heap.size,23,J⟩=N (T hA hl.length hc):=(gL.out.cell 23).trans Br.out;clear ah)|(go_at_call 7;refine(KH.out w4 hb4).mono ?_;rintro r' w5 ⟨rfl,ah⟩;have hb5:=ay hb4 ah;have gN:=I (gL.out.step ah);have mP:=I (kU.out.step ah);clear c20 c23;have c20:w5.cell? ⟨w.heap.size,20,J⟩=N (T eA el.length ec):=(gN.out.cell 20).trans ((H3.out.ik 20 O).trans rfl);have p0:w5.cell? ⟨w.heap.size+1,0,J⟩=N (G F l):=mP.out.cell 0;have p1:w5.cell? ⟨w.heap.size+1,1,J⟩=N (G F r):=mP.out.cell 1;clear ah));go_ret;exact⟨rfl,hb5⟩
  cases e2:decide (l<0)
  case true=>
   go_wp2_with (first|(go_at_call 6;refine(KV.out w3 hb3).mono ?_;rintro r' w4 ⟨rfl,ah⟩;have hb4:=ay hb3 ah;have gL:=I (jO.out.step ah);have kU:=I (aP.out.step ah);have c20:w4.cell? ⟨w.heap.size,20,J⟩=N (T eA el.length ec):=(gL.out.cell 20).trans ((H3.out.ik 20 O).trans rfl);have c23:w4.cell? ⟨w.heap.size,23,J⟩=N (T hA hl.length hc):=(gL.out.cell 23).trans Br.out;clear ah)|(go_at_call 7;refine(KH.out w4 hb4).mono ?_;rintro r' w5 ⟨rfl,ah⟩;have hb5:=ay hb4 ah;have gN:=I (gL.out.step ah);have mP:=I (kU.out.step ah);clear c20 c23;have c20:w5.cell? ⟨w.heap.size,20,J⟩=N (T eA el.length ec):=(gN.out.cell 20).trans ((H3.out.ik 20 O).trans rfl);have p0:w5.cell? ⟨w.heap.size+1,0,J⟩=N (G F l):=mP.out.cell 0;have p1:w5.cell? ⟨w.heap.size+1,1,J⟩=N (G F r):=mP.out.cell 1;clear ah));go_ret;exact⟨rfl,hb5⟩
  cases e3:decide (r<0)
  case true=>
   go_wp2_with (first|(go_at_call 6;refine(KV.out w3 hb3).mono ?_;rintro r' w4 ⟨rfl,ah⟩;have hb4:=ay hb3 ah;have gL:=I (jO.out.step ah);have kU:=I (aP.out.step ah);have c20:w4.cell? ⟨w.heap.size,20,J⟩=N (T eA el.length ec):=(gL.out.cell 20).trans ((H3.out.ik 20 O).trans rfl);have c23:w4.cell? ⟨w.heap.size,23,J⟩=N (T hA hl.length hc):=(gL.out.cell 23).trans Br.out;clear ah)|(go_at_call 7;refine(KH.out w4 hb4).mono ?_;rintro r' w5 ⟨rfl,ah⟩;have hb5:=ay hb4 ah;have gN:=I (gL.out.step ah);have mP:=I (kU.out.step ah);clear c20 c23;have c20:w5.cell? ⟨w.heap.size,20,J⟩=N (T eA el.length ec):=(gN.out.cell 20).trans ((H3.out.ik 20 O).trans rfl);have p0:w5.cell? ⟨w.heap.size+1,0,J⟩=N (G F l):=mP.out.cell 0;have p1:w5.cell? ⟨w.heap.size+1,1,J⟩=N (G F r):=mP.out.cell 1;clear ah));go_ret;exact⟨rfl,hb5⟩
  cases e4:decide ((el.length:Int)<=l)
  case true=>
   go_wp2_with (first|(go_at_call 6;refine(KV.out w3 hb3).mono ?_;rintro r' w4 ⟨rfl,ah⟩;have hb4:=ay hb3 ah;have gL:=I (jO.out.step ah);have kU:=I (aP.out.step ah);have c20:w4.cell? ⟨w.heap.size,20,J⟩=N (T eA el.length ec):=(gL.out.cell 20).trans ((H3.out.ik 20 O).trans rfl);have c23:w4.cell? ⟨w.heap.size,23,J⟩=N (T hA hl.length hc):=(gL.out.cell 23).trans Br.out;clear ah)|(go_at_call 7;refine(KH.out w4 hb4).mono ?_;rintro r' w5 ⟨rfl,ah⟩;have hb5:=ay hb4 ah;have gN:=I (gL.out.step ah);have mP:=I (kU.out.step ah);clear c20 c23;have c20:w5.cell? ⟨w.heap.size,20,J⟩=N (T eA el.length ec):=(gN.out.cell 20).trans ((H3.out.ik 20 O).trans rfl);have p0:w5.cell? ⟨w.heap.size+1,0,J⟩=N (G F l):=mP.out.cell 0;have p1:w5.cell? ⟨w.heap.size+1,1,J⟩=N (G F r):=mP.out.cell 1;clear ah));go_ret;exact⟨rfl,hb5⟩
  cases e5:decide ((el.length:Int)<=r)
  case true=>
   go_wp2_with (first|(go_at_call 6;refine(KV.out w3 hb3).mono ?_;rintro r' w4 ⟨rfl,ah⟩;have hb4:=ay hb3 ah;have gL:=I (jO.out.step ah);have kU:=I (aP.out.step ah);have c20:w4.cell? ⟨w.heap.size,20,J⟩=N (T eA el.length ec):=(gL.out.cell 20).trans ((H3.out.ik 20 O).trans rfl);have c23:w4.cell? ⟨w.heap.size,23,J⟩=N (T hA hl.length hc):=(gL.out.cell 23).trans Br.out;clear ah)|(go_at_call 7;refine(KH.out w4 hb4).mono ?_;rintro r' w5 ⟨rfl,ah⟩;have hb5:=ay hb4 ah;have gN:=I (gL.out.step ah);have mP:=I (kU.out.step ah);clear c20 c23;have c20:w5.cell? ⟨w.heap.size,20,J⟩=N (T eA el.length ec):=(gN.out.cell 20).trans ((H3.out.ik 20 O).trans rfl);have p0:w5.cell? ⟨w.heap.size+1,0,J⟩=N (G F l):=mP.out.cell 0;have p1:w5.cell? ⟨w.heap.size+1,1,J⟩=N (G F r):=mP.out.cell 1;clear ah));go_ret;exact⟨rfl,hb5⟩
  go_upto_region 5 with (first|(go_at_call 6;refine(KV.out w3 hb3).mono ?_;rintro r' w4 ⟨rfl,ah⟩;have hb4:=ay hb3 ah;have gL:=I (jO.out.step ah);have kU:=I (aP.out.step ah);have c20:w4.cell? ⟨w.heap.size,20,J⟩=N (T eA el.length ec):=(gL.out.cell 20).trans ((H3.out.ik 20 O).trans rfl);have c23:w4.cell? ⟨w.heap.size,23,J⟩=N (T hA hl.length hc):=(gL.out.cell 23).trans Br.out;clear ah)|(go_at_call 7;refine(KH.out w4 hb4).mono ?_;rintro r' w5 ⟨rfl,ah⟩;have hb5:=ay hb4 ah;have gN:=I (gL.out.step ah);have mP:=I (kU.out.step ah);clear c20 c23;have c20:w5.cell? ⟨w.heap.size,20,J⟩=N (T eA el.length ec):=(gN.out.cell 20).trans ((H3.out.ik 20 O).trans rfl);have p0:w5.cell? ⟨w.heap.size+1,0,J⟩=N (G F l):=mP.out.cell 0;have p1:w5.cell? ⟨w.heap.size+1,1,J⟩=N (G F r):=mP.out.cell 1;clear ah))
  clear KV KH jO aP gL kU hb3 hb4 c20 p0 p1;obtain⟨v24,hv24⟩:=VN.out;have c24:w5.cell? ⟨w.heap.size,24,J⟩=N v24:=(gN.out.cell 24).trans hv24;have f24:w5.frozen? ⟨w.heap.size,24,J⟩=ag:=gN.out.frozen 24;go_upto_region 6 with fail
  have Zp:=gN.out.bZ 24 (T J 0 0);have hb6:=hb5.setCell (p:=⟨w.heap.size,24,J⟩) (aC _) (T J 0 0);have Je:=I (mP.out.far (p:=⟨w.heap.size,24,J⟩) (by show w.heap.size+1≠w.heap.size;omega) (T J 0 0));obtain⟨D,hDe⟩: ∃ D:bN,Hid (D=⟨aH,kF cur y m p cl.length cA cc ro el.length eA ec,cur,y,m,p,cl,cA,cc,ro,el,eA,ec,es,sA,sc,rl,rA,rc⟩):=⟨_,I rfl⟩;have Ko:=hV1.out.symm;simp only[bR]at Ko;have HD:Hid D.Is:=I (by rw[hDe.out];exact⟨rfl,H3.out.size,H3.out.ik,H3.out.si,H3.out.rat,M3.out.ik,by (have:=M3.out.len;dsimp only;omega),ajp Ko.1,Ko.1,Ko.2,HRW.out⟩);have HI:Hid (D.In w):=I (by rw[hDe.out];exact Wj.out);have HHV:Hid (aT.valid D.el.length hl=ae):=I (by rw[hDe.out];exact hV2.out.symm);have acw:Hid (D.aH[23]? =N (T hA hl.length hc)):=I (by rw[hDe.out];exact Br.out);have HXB:Hid (au (w5.setCell ⟨w.heap.size,24,J⟩ (T J 0 0)) w.heap.size 36 (D.mt (T J 0 0)).aH):=I (by rw[hDe.out];exact Zp);have h61:D.es.length<=61:=by rw[hDe.out];exact M3.out.len
  have hnE:D.el.length=el.length:=by rw[hDe.out]
  have g1:l≠r:=by simpa using e1
  have g2:=j3 e2;have g3:=j3 e3;have g4:=j3 e4;have g5:=j3 e5;obtain⟨ls,rfl⟩: ∃ n:Nat,l=n:=⟨l.toNat,O⟩;obtain⟨rs,rfl⟩: ∃ n:Nat,r=n:=⟨r.toNat,O⟩;have hls:ls<D.el.length:=O;have hrs:rs<D.el.length:=O;have hne:((ls:Int))≠rs:=g1;clear Zp Ko hV1 hV2 gN mP Wj M3 H3 Br VN HRW e1 e2 e3 e4 e5 c24 f24 hv24 hDe g1 g2 g3 g4 g5 hnE hb5 hbz ZI;generalize w5.setCell ⟨w.heap.size,24,J⟩ (T J 0 0)=w6 at*;have oG:=I hne;clear hne;have KO:=I (λ(W:Z) (hb:Below w.heap.size w W) (e q':Int)=>ak5 W (D.mt (T J 0 0)) (uq HD.out) (UD (HI.out.step hb)) [] J 0 (Ll HD.out) (aku W) e q' q);unfold XJ at KO;have p0:w6.cell? ⟨w.heap.size+1,0,J⟩=N (G F ls):=Je.out.cell 0;have p1:w6.cell? ⟨w.heap.size+1,1,J⟩=N (G F rs):=Je.out.cell 1;have p2:w6.cell? ⟨w.heap.size+1,2,J⟩=N (G F q):=Je.out.cell 2;go_wp2_with (refine gP rfl 36 (.tmp 2) rfl w.heap.size 0 rfl (D.mt (T J 0 0)).aH (jF HXB.out) jB 27 h27 (uq HD.out).size ?_);go_upto_region 7 with (go_at_call 8;refine(KO.out w6 hb6 ls rs).mono ?_;rintro r' w7 ⟨ah,A1,c1,L,b1,rfl,ho,hLn,Zf,Ze⟩;have yT:=I (HXB.out.step ah);have xH:=I (Je.out.step ah);have fu:=ay hb6 ah;have HL:=I (oO ho hb6.size);have Nf:=I Ze;have QZ:=I Zf;clear ah ho Ze Zf)
  clear p0 p1 p2 HXB Je hb6;have p0:w7.cell? ⟨w.heap.size+1,0,J⟩=N (G F ls):=xH.out.cell 0;have p1:w7.cell? ⟨w.heap.size+1,1,J⟩=N (G F rs):=xH.out.cell 1;have p2:w7.cell? ⟨w.heap.size+1,2,J⟩=N (G F q):=xH.out.cell 2;go_wp2_with (refine gP rfl 36 (.tmp 2) rfl w.heap.size 0 rfl (D.mt (T J 0 0)).aH (jF yT.out) jB 27 h27 (uq HD.out).size ?_);go_upto_region 8 with (go_at_call 8;refine(KO.out w7 fu rs ls).mono ?_;rintro r' w8 ⟨ah,A2,c2,R,b2,rfl,ho,hRn,Zm,Zl⟩;have vU:=I (yT.out.step ah);have jN:=I (xH.out.step ah);have gQ:=ay fu ah;have HR:=I (oO ho fu.size);have zR:=I (dF HL.out ah);have Rk:=I Zl;have HRW:=I Zm;clear ah ho Zl Zm)
  clear p0 p1 p2 yT xH fu KO HL;have p3:w8.cell? ⟨w.heap.size+1,3,J⟩=N (G F aZ):=jN.out.cell 3;have KP:=I (abh w8 L R A1 A2 c1 c2 aZ (AX zR.out) (AX HR.out) (λo ho=>by
   rcases il.1 ho with h|h
   ·exact QZ.out o h
   ·exact HRW.out o h))
  unfold NJ at KP;clear QZ HRW zR HR;go_upto_region 9 with (go_at_call 9;refine KP.out.mono ?_;rintro r' w9 ⟨ah,⟨E,hE,rfl,-⟩|⟨vo,out,u,v,rfl,hInv,hrow,TU,-,-⟩⟩)
  ·have CE:(E==0)=ag:=vH hE;have hbx:=ay gQ ah;clear KP vU jN Nf Rk ah p3
   cases b1
   ·go_wp2_with fail;go_ret;exact⟨rfl,hbx⟩
   ·cases b2
    ·go_wp2_with fail;go_ret;exact⟨rfl,hbx⟩
    ·go_wp2_with fail;go_ret;exact⟨rfl,hbx⟩
  have hbx:=ay gQ ah
  cases b1
  case false=>
   go_wp2_with fail;go_ret;exact⟨rfl,hbx⟩
  cases b2
  case false=>
   go_wp2_with fail;go_ret;exact⟨rfl,hbx⟩
  have Zy:=(Nf.out aL).1;have QU:Hid (∀ o∈L,Wh.rT (D.env q) D.el D.es (ax.cB D.y D.m D.p q) ls rs o):=I (Nf.out aL).2;have zY:Hid (∀ o∈R,Wh.rT (D.env q) D.el D.es (ax.cB D.y D.m D.p q) rs ls o):=I (Rk.out aL).2;have IM:Hid (ax.bJ D.y D.m D.p q=0):=I Zy;have BC:=I hInv;have CQ:out.length<=60:=by
   have:=hInv.few;unfold Mt.nJ at this;rw[pM]at this;omega
  obtain⟨oA,oc,rfl,-⟩:=Rd.dE hrow;have kr:Hid (kM D w #[G F ls,G F rs,G F q,G F aZ] oA oc out (T J 0 0) [] w9):=I ⟨hbx,vU.out.step ah,jN.out.step ah,jZ _ _ _ _,oO hrow gQ.size,λp hp=>⟨(TU p hp).1.more gQ.size,(TU p hp).2.more gQ.size⟩⟩;clear Zy Nf Rk hInv hrow TU ah vU jN KP gQ p3 hbx;have hst:=(aD w9.heap.size w9).alloc (aC _) (U #[G F 0,G F 0,G F 1,G F 0] 52);have KD:=I (agc _ w9.heap.size 52 (au.new w9 52 #[G F 0,G F 0,G F 1,G F 0]));go_upto_region 12 with (go_at_call 10;refine KD.out.mono ?_;rintro r' iG ⟨rfl,ah⟩;have eP:=I (kr.out.step (hst.trans (ah.mono hst.size)));clear ah)
  clear kr hst KD;obtain⟨Fw,hi1,EW,EX,EY⟩:=jh dz.info;go_wp2_with fail;go_loopw [14] (λt wr=> ∃ (k:Nat) (vM:aj),k<=out.length/\t= G F k/\kM D w #[G F ls,G F rs,G F q,G F aZ] oA oc out vM ((Wh.iP out 0).take k) wr) (λt _=>out.length - (intOf t).toNat)
  case atStart=>exact⟨0,_,O,rfl,eP.out⟩
  case round=>
   clear eP;obtain⟨k,vM,hk,rfl,hS⟩:=hrel;have HS:=I hS;clear hS
   by_cases hlt:k<out.length
   ·obtain⟨b,o,hA,aX,f0,f1⟩:=dK.at_ (AX HS.out.row) hlt;subst hA;have hne:=BC.out.ne (out[k].left.l,out[k].right.l) (iW.2 ⟨out[k],bP hlt,rfl⟩);have nP:=I (akA out k hlt);have hck:((Wh.iP out 0).take k).length=k:=by rw[jR,Wh.Lm];omega
    obtain⟨mA,mc,GV,-⟩:=Rd.dE HS.out.own;rw[hck]at GV;subst GV;have oI:=I (λ(W:Z) (h:W.ownsRow w.heap.size 56 2 (T (N ⟨b,o,J⟩) out.length oc) out.length (cellsOf dK.cells out))=>(by
     obtain⟨b',o',hA',_,g0,g1⟩:=dK.at_ (AX h) hlt;injection hA' with hA'
     injection hA' with e1 e2
     subst e1 e2;exact⟨g0,g1⟩:W.cell? ⟨b,o+k*2,J⟩=N out[k].left.val/\W.cell? ⟨b,o+k*2+1,J⟩=N out[k].right.val))
    generalize out[k]=pr at*;obtain⟨⟨l1,B1,k1⟩,⟨l2,B2,k2⟩⟩:=pr;unfold Sl.val at f0 f1 oI;dsimp only at*;have t1:((l1.length:Int)==0)=ag:=by simp;intro h;rw[h]at hne;simp at hne
    have t2:((l2.length:Int)==0)=ag:=by simp;intro h;rw[h]at hne;simp at hne
    have hws:F.wrap ((k:Int)+1)=(k:Int)+1:=iL _ O;go_upto_region 17 with fail
    obtain⟨S,hS⟩: ∃ S:Z->Prop,S=λw'=>Below w.heap.size w w'/\(au w' w.heap.size 36 (D.mt (T mA k mc)).aH/\w'.ownsRow w.heap.size 56 2 (T (N ⟨b,o,J⟩) out.length oc) out.length (cellsOf dK.cells out)):=⟨_,rfl⟩
    have aR:Hid (∀ w':Z,(Below w.heap.size w w'/\(au w' w.heap.size 36 (D.mt (T mA k mc)).aH/\w'.ownsRow w.heap.size 56 2 (T (N ⟨b,o,J⟩) out.length oc) out.length (cellsOf dK.cells out)))↔S w'):=I (λw'=>by rw[hS]);clear hS;have HS2:=I (HS.out.step ((aD _ wr).drew));have hC: ∃ d:aK S,wr.drew=d.now:=aK.of ((aR.out _).1 ⟨HS2.out.ay,HS2.out.oK,HS2.out.row⟩);haveI:Nonempty (aK S):=by obtain⟨d,_⟩:=hC;exact⟨d⟩
    have p24: ∀ z:aK S,z.now.cell? ⟨w.heap.size,24,J⟩=N (T mA k mc):=λz=>(((aR.out _).2 z.is).2.1.cell 24).trans (Ll HD.out)
    have q0: ∀ z:aK S,z.now.cell? ⟨b,o+k*2,J⟩=N (T B1 l1.length k1):=λz=>(oI.out _ ((aR.out _).2 z.is).2.2).1
    have q1: ∀ z:aK S,z.now.cell? ⟨b,o+k*2+1,J⟩=N (T B2 l2.length k2):=λz=>(oI.out _ ((aR.out _).2 z.is).2.2).2
    clear f0 f1 oI HS;refine nK (n:=20) S 19 ai rfl ?_;have hT:=tg 0;(iterate 15 refine aab hT hC ?_;clear hT;intro hT K hK;go_big_quiet_op;go_big_quiet_on);clear hT;generalize wr.drew=W2 at*;clear p24 q0 q1;refine dw (i:=15) ai rfl rfl ?_;intro K hK;go_simp;refine hK _ _ (.inr (.inr hC)) ?_;clear hK K
    (try simp only[Zx])
    refine dw (i:=16) ai rfl rfl ?_;intro K hK;go_simp;have hst:=(aD W2.heap.size W2).alloc (aC _) (U #[G F ((k:Int)+1),T B1 l1.length k1,T B2 l2.length k2,G F 4] 58);have gK:=I (HS2.out.step hst);have mM:=I (au.new W2 58 #[G F ((k:Int)+1),T B1 l1.length k1,T B2 l2.length k2,G F 4]);replace hC:=aK.of ((aR.out _).1 ⟨gK.out.ay,gK.out.oK,gK.out.row⟩);refine hK _ _ (.inr (.inr hC)) ?_;clear hK K HS2 hst;generalize W2.heap.size=n8 at*;generalize W2.alloc (U #[G F ((k:Int)+1),T B1 l1.length k1,T B2 l2.length k2,G F 4] 58)=wA at*
    (try simp only[Zx])
    refine dw (i:=17) ai rfl rfl ?_;intro K hK;refine H6 wA dz.cells 4 dz.len dz.one (.tmp 165) (.tmp 180) 33 rfl w.heap.size 58 Fw (az #[G F 0,T J 0 0,T J 0 0,G F 0]) 64 Tryz.underlying33 hi1 EW EX EY rfl aJ (T mA k mc) ((Wh.iP out 0).take k) rfl gK.out.own n8 1 ⟨(k:Int)+1,⟨l1,B1,k1⟩,⟨l2,B2,k2⟩,4⟩ #[G F ((k:Int)+1),T B1 l1.length k1,T B2 l2.length k2,G F 4] rfl mM.out rfl (by rw[hck];unfold bK;omega) (by rw[hck];omega) gK.out.ay.size ?_;intro v10 wB mo iD;obtain⟨qD,n10,c10,rfl⟩: ∃ A n c,v10= T A n c:=(by obtain⟨A,c,h,-⟩:=Rd.dE mo;exact⟨A,_,c,h⟩);have zU:=I (gK.out.more iD mo);have hbk:=gK.out.oK.grown iD (gF gK.out.own gK.out.oK aJ);have wZ:=I hbk;replace hC:=aK.of ((aR.out _).1 ⟨iI gK.out.ay gK.out.ay.size gK.out.own iD,hbk,AV gK.out.row gK.out.own aJ iD⟩);refine hK _ _ (.inr (.inr hC)) ?_;clear hK K iD mo hbk gK mM
    (try simp only[Zx])
    refine dw (i:=18) ai rfl rfl ?_;intro K hK;go_simp;refine hK _ _ (.inr (.inr hC)) ?_;clear hK K
    (try simp only[Zx])
    refine dw (i:=19) ai rfl rfl ?_;intro K hK;have LY:wB.cell? ⟨w.heap.size,24,J⟩=N (T mA k mc):=(wZ.out.cell 24).trans (Ll HD.out);have H7:wB.frozen? ⟨w.heap.size,24,J⟩=ag:=wZ.out.frozen 24;go_simp;refine hK _ _ (.inr (.inl rfl)) ?_;clear hK K LY H7 hC
    (try simp only[Zx])
    refine kH ai ?_ _;go_wp2_with fail;go_roundw
    case rel=>exact⟨k+1,_,O,by go_num,by rw[nP.out];exact zU.out⟩
    case measure=>simp[intOf];omega
   ·have hke:(Wh.iP out 0).take k=Wh.iP out 0:=kS (by rw[Wh.Lm];omega);rw[hke]at HS;obtain⟨mA,mc,rfl,-⟩:=Rd.dE HS.out.own;clear hke;have WA:=I (Wh.akv HD.out.ids oG.out O BC.out QU.out zY.out);have HST:Hid (∀ m∈Wh.iP out 0,m.state=4):=I (λm hm=>(Wh.Fa hm).2.1);have Ng:=I (λ(W:Z) (h:kM D w #[G F ls,G F rs,G F q,G F aZ] oA oc out (T mA (Wh.iP out 0).length mc) (Wh.iP out 0) W)=>aka h HI.out.nG hLn BC.out QU.out zY.out);have Nn:=I (λ(items:List bI) (hit: ∀ i∈items,El.vY (D.env q) D.el D.es i) (fb:Bool) (last acq:Int) (x:Int×List bI) (hx:x∈El.all items fb last acq (Wh.iP out 0))=>Wh.amM HD.out.ids BC.out QU.out zY.out hit hx);have adz:Hid (∀ k (hk:k<out.length) (r:aO),r∈out[k].left.l->r∈mE (Wh.iP out 0)):=I (λk hk r hr=>by
     rw[Wh.aaO];exact FN.2 ⟨out[k],bP hk,il.2 (.inl hr)⟩)
    generalize Wh.iP out 0=M at*;have Xt:=I (λ(W:Z) (h:kM D w #[G F ls,G F rs,G F q,G F aZ] oA oc out (T mA M.length mc) M W)=>aaE W (D.mt (T mA M.length mc)).aH D.es D.sA D.sc (ax.cB D.y D.m D.p q) ls rs (uq HD.out).size (uq HD.out).si ((HI.out.step h.ay).nG) HD.out.ze HD.out.ids M mA mc (Ll HD.out) (Ng.out W h) WA.out);go_wp2_with (refine LX rfl 36 (.tmp 2) rfl w.heap.size 0 rfl (D.mt (T mA M.length mc)).aH (jF HS.out.oK) jB 27 h27 (uq HD.out).size ?_);go_upto_region 20 with (go_at_call 11;refine(Xt.out wr HS.out).mono ?_;rintro r' Hy ⟨rfl,ah⟩;have Np:=I (HS.out.step ah);clear ah)
    clear HS Xt;have p0:Hy.cell? ⟨w.heap.size+1,0,J⟩=N (G F ls):=Np.out.par.cell 0;have p1:Hy.cell? ⟨w.heap.size+1,1,J⟩=N (G F rs):=Np.out.par.cell 1;have hst:=(aD Hy.heap.size Hy).alloc (aC _) (U #[G F ls,G F rs] 3);have Rm:=I (Np.out.step hst);have tH:=I (au.new Hy 3 #[G F ls,G F rs]);clear hst Np;obtain⟨Vb,hi2,Uj,Uk,Ul⟩:=jh bI.info;obtain⟨vM,GV⟩: ∃ vM:aj,Hid (vM= T mA M.length mc):=⟨_,I rfl⟩;have VO:Hid ((D.mt vM).aH[24]? =N (T mA M.length mc)):=I (by rw[GV.out];exact Ll HD.out);rw[<- GV.out]at Rm Ng;clear GV;go_wp2_with fail;have KIT:=I (λ(W:Z) (h:kM D w #[G F ls,G F rs,G F q,G F aZ] oA oc out vM M W) (en:Nat) (hen:en<D.el.length)=>aoJ W (D.mt vM) (uq HD.out) (UD (HI.out.step h.ay)) h61 en hen q);unfold RF at KIT;generalize hkb:Hy.heap.size=kb at*;clear hkb;go_loopw [15,200] (λv t wr=> ∃ (k:Nat) (dM:List bI),k<=2/\t= G F k/\(∀ i∈dM,El.vY (D.env q) D.el D.es i)/\dM.length<=2440*k/\wr.ownsRow w.heap.size 83 7 v dM.length (cellsOf bI.cells dM)/\kM D w #[G F ls,G F rs,G F q,G F aZ] oA oc out vM M wr/\au wr kb 3 #[G F ls,G F rs]) (λ_ t _=>2 - (intOf t).toNat)
    case atStart=>exact⟨0,[],O,rfl,aL,aL,jZ _ _ _ _,Rm.out,tH.out⟩
    case round=>
     clear Rm tH p0 p1;obtain⟨k,dM,hk2,rfl,hI2,hIn,Kz,hS,Za⟩:=hrel;have xz:=I Kz;have F6:=I hI2;have HS:=I hS;have tH:=I Za;clear hI2 Kz hS Za
     by_cases hlt:k<2
     ·obtain⟨en,hen,hcell⟩: ∃ en:Nat,en<D.el.length/\wr.cell? ⟨kb,k,J⟩=N (G F en):=by
       rcases (by omega:k=0\/k=1) with rfl|rfl
       ·exact⟨ls,hls,tH.out.cell 0⟩
       ·exact⟨rs,hrs,tH.out.cell 1⟩
      go_upto_region 24 with fail
      have p2:wr.cell? ⟨w.heap.size+1,2,J⟩=N (G F q):=HS.out.par.cell 2;go_wp2_with (refine gP rfl 36 (.tmp 2) rfl w.heap.size 0 rfl (D.mt vM).aH (jF HS.out.oK) jB 27 h27 (uq HD.out).size ?_);go_upto_region 25 with (go_at_call 12;refine(KIT.out wr HS.out en hen).mono ?_;rintro r' w12 ⟨ah,⟨E,hE,rfl⟩|⟨v2,I2,rfl,hI2,apw,hrow2⟩⟩)
      ·have CE:(E==0)=ag:=vH hE;have hbx:=ay HS.out.ay ah;clear ah;go_wp2_with fail;go_ret;exact⟨rfl,hbx⟩
      ·have Gg:=I (HS.out.step ah);have DW:=I (dF xz.out ah);have QQ:=I (tH.out.step ah);obtain⟨A2,c2',rfl,Z5⟩:=Rd.dE hrow2;have oI:=I Z5;have hIA:Hid (∀ i∈dM++I2,El.vY (D.env q) D.el D.es i):=I (λi hi=>by
        rcases il.1 hi with h|h
        ·exact F6.out i h
        ·exact hI2 i h)
       clear ah hI2 hrow2 Z5 HS xz tH hcell p2;go_wp2_with (at_builtin;refine zA _ rfl (.tmp 214) (.tmp 215) 59 rfl w.heap.size 83 Vb (az #[G F 0,G F 0,G F 0,G F 0,G F 0,G F 0,G F 0]) 7 56 Tryz.underlying59 hi2 Uj Uk Ul rfl aJ _ dM.length _ rfl DW.out w12.heap.size A2 I2.length c2' (cellsOf bI.cells I2) rfl oI.out (cells_one bI.one I2) fQ O Gg.out.ay.size ?_;intro v9 w9' uf mR;have acZ:=I uf;have HS9:=I (Gg.out.beside DW.out aJ aJ aJ aJ aJ mR);have ac6:=I (QQ.out.grown mR (gF DW.out QQ.out aJ));clear uf mR Gg DW QQ);go_roundw
       case rel=>exact⟨k+1,dM++I2,O,by go_num,hIA.out,by rw[fK];omega,by rw[fK,y8];exact acZ.out,HS9.out,ac6.out⟩
       case measure=>simp[intOf];omega
     ·obtain⟨iA,ic,rfl,-⟩:=Rd.dE xz.out;clear KIT tH;have EI:dM.length<=4880:=O;have Nu:=I (λi hi=>ajf HD.out HI.out (F6.out i hi));have HB:Hid (En (D.mt vM) hl hA hc M mA mc (ax.cB D.y D.m D.p q) ls rs):=I ⟨uq HD.out,(Dc aJ).trans acw.out,VO.out,HHV.out,Wl.out.2,WA.out,HST.out,hls,hrs⟩;have QJ:=I (λ(W:Z) (h:kM D w #[G F ls,G F rs,G F q,G F aZ] oA oc out vM M W) (ho:W.ownsRow w.heap.size 83 7 (T iA dM.length ic) dM.length (cellsOf bI.cells dM))=>(⟨UD (HI.out.step h.ay),Rd.now Wl.out.1 h.ay,Ng.out W h,AX ho⟩:yU (D.mt vM) hl hA M mA dM iA W));have KE:=I (aiG wr HB.out (QJ.out wr HS.out xz.out) O (λi hi=>(Nu.out i hi).1) ic q IM.out);have KR:=I (λ(W:Z) (h:kM D w #[G F ls,G F rs,G F q,G F aZ] oA oc out vM M W) (ho:W.ownsRow w.heap.size 83 7 (T iA dM.length ic) dM.length (cellsOf bI.cells dM)) (id:Int) (hid: ∃ x∈rZ (D.mt vM) hl M dM ls rs q,x.1=id)=>aiL W HB.out (QJ.out W h ho) O (λi hi=>(Nu.out i hi).1) (λi hi=>(Nu.out i hi).2) ic id q IM.out hid);have yH:Hid (∀ x∈rZ (D.mt vM) hl M dM ls rs q,El.lQ x.2<=aZ/\ -El.lQ x.2<=aZ):=I (λx hx=>Nn.out dM F6.out _ _ _ x hx);unfold Ry at KE;unfold RA at KR;generalize rZ (D.mt vM) hl M dM ls rs q=EL at*;clear Nn Nu HB QJ F6;have p2:wr.cell? ⟨w.heap.size+1,2,J⟩=N (G F q):=HS.out.par.cell 2;go_upto_region 29 with fail
      go_wp2_with (refine gP rfl 36 (.tmp 2) rfl w.heap.size 0 rfl (D.mt vM).aH (jF HS.out.oK) jB 27 h27 (uq HD.out).size ?_);go_upto_region 32 with (go_at_call 13;refine KE.out.mono ?_;rintro r' w13 ⟨vi,ids,rfl,ZK,aih,hoi,ah⟩;obtain⟨dA,dc,rfl,-⟩:=Rd.dE hoi;have Gg:=I (HS.out.step ah);have DW:=I (dF xz.out ah);have D6:=I (oO hoi HS.out.ay.size);have Ws:=I ZK;clear ah ZK hoi)
      clear HS xz p2 KE;go_wp2_with fail;go_loopw [230] (λt wr=> ∃ k:Nat,k<=ids.length/\t= G F k/\kM D w #[G F ls,G F rs,G F q,G F aZ] oA oc out vM M wr/\wr.ownsRow w.heap.size 83 7 (T iA dM.length ic) dM.length (cellsOf bI.cells dM)/\wr.ownsRow w.heap.size 3 1 (T dA ids.length dc) ids.length (cellsOf EZ ids)) (λt _=>ids.length - (intOf t).toNat)
      case atStart=>exact⟨0,O,rfl,Gg.out,DW.out,D6.out⟩
      case round=>
       clear Gg DW D6;obtain⟨k,hk3,rfl,hS,Kz,hoi⟩:=hrel;have HS:=I hS;have xz:=I Kz;have D6:=I hoi;clear hS Kz hoi
       by_cases hlt3:k<ids.length
       ·obtain⟨b,o,hA',aX,hcc⟩:=qj (f:=EZ) (sz:=1) (λ_=>rfl) (AX D6.out) hlt3;subst hA';have f0:=hcc 0 _ rfl;simp only[Nat.mul_one,Ib]at f0;clear hcc;have Xw:=I (KR.out wr HS.out xz.out ids[k] (Ws.out _ (bP hlt3)));generalize ids[k]=id0 at*;go_upto_region 35 with fail
        have p2:wr.cell? ⟨w.heap.size+1,2,J⟩=N (G F q):=HS.out.par.cell 2;go_wp2_with (refine gP rfl 36 (.tmp 2) rfl w.heap.size 0 rfl (D.mt vM).aH (jF HS.out.oK) jB 27 h27 (uq HD.out).size ?_);go_upto_region 36 with (go_at_call 14;refine Xw.out.mono ?_;rintro r' LQ ⟨x,hx,ac,rfl,ah⟩;have hsum:=yH.out x hx)
        have yS:=I (HS.out.step ah);have acY:=I (dF xz.out ah);have ado:=I (dF D6.out ah);have p3:LQ.cell? ⟨w.heap.size+1,3,J⟩=N (G F aZ):=yS.out.par.cell 3;have hwb:=ao0 hwt;generalize El.lQ x.2=sm at*;have t1:decide (aZ<sm)=ag:=iw O;have t2:decide (aZ< -sm)=ag:=iw O;have hws:F.wrap (-sm)= -sm:=iL _ O;clear ah hx HS xz D6 f0 p2 Xw;go_wp2_with fail;go_roundw
        case rel=>exact⟨k+1,O,by go_num,yS.out,acY.out,ado.out⟩
        case measure=>simp[intOf];omega
       ·clear xz D6 KR yH Ws;go_wp2_with fail;go_loopw [26] (λt wr=> ∃ k:Nat,k<=out.length/\t= G F k/\kM D w #[G F ls,G F rs,G F q,G F aZ] oA oc out vM M wr) (λt _=>out.length - (intOf t).toNat)
        case atStart=>exact⟨0,O,rfl,HS.out⟩
        case round=>
         clear HS;obtain⟨k,hk4,rfl,hS⟩:=hrel;have HS:=I hS;clear hS
         by_cases KU:k<out.length
         ·obtain⟨b,o,hA',aX,g0,g1⟩:=dK.at_ (AX HS.out.row) KU;have hne:=BC.out.ne (out[k].left.l,out[k].right.l) (iW.2 ⟨out[k],bP KU,rfl⟩);have oI:=I (λ(W:Z) (h:kM D w #[G F ls,G F rs,G F q,G F aZ] oA oc out vM M W)=>(by
           obtain⟨b',o',hA2,_,u0,u1⟩:=dK.at_ (AX h.row) KU;rw[hA']at hA2;injection hA2 with hA2
           injection hA2 with e1 e2
           subst e1 e2;exact u0:W.cell? ⟨b,o+k*2,J⟩=N out[k].left.val))
          have I7:=I (λ(W:Z) (h:kM D w #[G F ls,G F rs,G F q,G F aZ] oA oc out vM M W)=>((h.oM _ (bP KU)).1.rd aO.len:Rd W W.heap.size 2 out[k].left.A out[k].left.l.length (cellsOf aO.cells out[k].left.l)));have Xo:=I (λ(r:aO) h=>adz.out k KU r h);have hAo:=hA';subst hAo;generalize out[k]=pr at*;obtain⟨⟨l1,B1,k1⟩,⟨l2,B2,k2⟩⟩:=pr;unfold Sl.val at oI g0 g1;dsimp only at*;have hl1:0<l1.length:=O;obtain⟨b5,o5,hB1,Tx,e0,e1⟩:=aO.at_ (I7.out wr HS.out) hl1;subst hB1;have Xn:=I (λ(W:Z) (h:kM D w #[G F ls,G F rs,G F q,G F aZ] (N ⟨b,o,J⟩) oc out vM M W)=>(by
           obtain⟨b',o',hA2,_,u0,u1⟩:=aO.at_ (I7.out W h) hl1;injection hA2 with hA2
           injection hA2 with e1 e2
           subst e1 e2;rw[Md,Ib]at u0 u1;exact⟨u0,u1⟩:W.cell? ⟨b5,o5,J⟩=N (G F l1[0].entry)/\W.cell? ⟨b5,o5+1,J⟩=N (G F l1[0].line)))
          have HZ:=I (Xo.out _ (bP hl1));generalize l1[0]=z at*;obtain⟨z0,z1⟩:=z;dsimp only at*;clear I7 Xo e0 e1 g0 g1 hA';have c1:wr.cell? ⟨w.heap.size,1,J⟩=N (G F D.y):=(HS.out.oK.cell 1).trans ((Dc aJ).trans ((HD.out.ik 1 O).trans (by rw[HD.out.HG];rfl)));have c2':wr.cell? ⟨w.heap.size,2,J⟩=N (G F D.m):=(HS.out.oK.cell 2).trans ((Dc aJ).trans ((HD.out.ik 2 O).trans (by rw[HD.out.HG];rfl)));have c3:wr.cell? ⟨w.heap.size,3,J⟩=N (G F D.p):=(HS.out.oK.cell 3).trans ((Dc aJ).trans ((HD.out.ik 3 O).trans (by rw[HD.out.HG];rfl)));have p2:wr.cell? ⟨w.heap.size+1,2,J⟩=N (G F q):=HS.out.par.cell 2;have Xr:Hid (aF ak 15 #[az #[G F D.y,G F D.m,G F D.p],G F q] wr λe w'=>e= .returned (bG #[G F (ax.cB D.y D.m D.p q),G F 0])/\Below wr.heap.size wr w'):=I (by have:=Gu D.y D.m D.p q wr;rwa [IM.out]at this);have RO:=I (λ(W:Z) (h:kM D w #[G F ls,G F rs,G F q,G F aZ] (N ⟨b,o,J⟩) oc out vM M W)=>abf W (D.mt vM).aH D.es D.sA D.sc M mA mc ls rs (ax.cB D.y D.m D.p q) (uq HD.out).size (uq HD.out).si ((HI.out.step h.ay).nG) HD.out.ze VO.out (Ng.out W h));unfold NF at RO;have acI:=I (λ(W:Z) (h:kM D w #[G F ls,G F rs,G F q,G F aZ] (N ⟨b,o,J⟩) oc out vM M W)=>((HI.out.step h.ay).nG).rd);generalize ax.cB D.y D.m D.p q=bA at*;go_upto_region 43 with (go_at_call 15;refine Xr.out.mono ?_;rintro r' LQ ⟨rfl,ah⟩;have yS:=I (HS.out.step ah);clear ah)
          clear HS c1 c2' c3 p2 Xr;have p0:LQ.cell? ⟨w.heap.size+1,0,J⟩=N (G F ls):=yS.out.par.cell 0;have p1:LQ.cell? ⟨w.heap.size+1,1,J⟩=N (G F rs):=yS.out.par.cell 1;go_wp2_with (refine gP rfl 36 (.tmp 2) rfl w.heap.size 0 rfl (D.mt vM).aH (jF yS.out.oK) jB 27 h27 (uq HD.out).size ?_);go_upto_region 44 with (go_at_call 16;refine(RO.out LQ yS.out).mono ?_;rintro r' w15 ⟨vr,R2,rfl,hR2,apA,hor,ah⟩;obtain⟨rA2,rc2,rfl,-⟩:=Rd.dE hor;have WT:=I (yS.out.step ah);have oZ:=I (oO hor yS.out.ay.size);have HR2:=I hR2;clear ah hor hR2)
          clear yS p0 p1 RO;go_loopw [283] (λt wr=> ∃ j:Nat,j<=R2.length/\t= G F j/\kM D w #[G F ls,G F rs,G F q,G F aZ] (N ⟨b,o,J⟩) oc out vM M wr/\wr.ownsRow w.heap.size 70 2 (T rA2 R2.length rc2) R2.length (cellsOf aO.cells R2)) (λt _=>R2.length - (intOf t).toNat)
          case atStart=>exact⟨0,O,rfl,WT.out,oZ.out⟩
          case round=>
           clear WT oZ;obtain⟨j,hj,rfl,hS,hor⟩:=hrel;have HS:=I hS;have oZ:=I hor;clear hS hor
           by_cases ZU:j<R2.length
           ·obtain⟨b6,o6,SN,ah1,f0,f1⟩:=aO.at_ (AX oZ.out) ZU;subst SN;obtain⟨hln,hnm⟩:=HR2.out _ (bP ZU);have hxz:R2[j]≠⟨z0,z1⟩:=λe=>hnm (by rw[e];exact HZ.out)
            have hgi:0<=Jn.sD D.es R2[j].entry:=by
             obtain⟨y,hy,_,_,h1,_⟩:=hln;rw[h1];exact ahd hy
            generalize R2[j]=x at*;obtain⟨x0,x1⟩:=x;dsimp only at*;clear hln hnm;have hst:=(aD wr.heap.size wr).alloc (aC _) (U #[G F x0,G F x1] 70);have HY:=I (au.new wr 70 #[G F x0,G F x1]);have eP:=I (HS.out.step hst);have yQ:=I (dF oZ.out hst);clear HS oZ hst;go_upto_region 46 with fail
            clear f0 f1;generalize wr.alloc (U #[G F x0,G F x1] 70)=W1 at*;have y0: ∀ d:Later W1,d.now.cell? ⟨wr.heap.size,0,J⟩=N (G F x0):=λd=>d.cell HY.out.lt (HY.out.cell 0)
            have y1: ∀ d:Later W1,d.now.cell? ⟨wr.heap.size,1,J⟩=N (G F x1):=λd=>d.cell HY.out.lt (HY.out.cell 1)
            have rU: ∀ d:Later W1,d.now.cell? ⟨w.heap.size,21,J⟩=N (T D.sA D.es.length D.sc):=λd=>d.cell eP.out.oK.lt ((eP.out.oK.cell 21).trans ((Dc aJ).trans HD.out.si))
            have q0: ∀ d:Later W1,d.now.cell? ⟨b,o+k*2,J⟩=N (T (N ⟨b5,o5,J⟩) l1.length k1):=λd=>oI.out d.now (eP.out.step d.below)
            have v0: ∀ d:Later W1,d.now.cell? ⟨b5,o5,J⟩=N (G F z0):=λd=>(Xn.out d.now (eP.out.step d.below)).1
            have v1: ∀ d:Later W1,d.now.cell? ⟨b5,o5+1,J⟩=N (G F z1):=λd=>(Xn.out d.now (eP.out.step d.below)).2
            have KG:=I (λ(d:Later W1)=>aet (abF D.es x0 D.sA D.sc d.now (acI.out d.now (eP.out.step d.below)) HD.out.ze));generalize Jn.sD D.es x0=gi at*;have t1:decide (gi<0)=ag:=iw O;have hz3:(0:Int)<=(k:Int):=O;have qV:(k:Int)<out.length:=O;have AA:(0:Int)<l1.length:=O;have hcs:(x0==z0)=ag\/((x0==z0)=ae/\(x1==z1)=ag):=by
             cases h0:(x0==z0)
             ·exact .inl rfl
             ·refine .inr ⟨rfl,?_⟩
              cases h1:(x1==z1)
              ·rfl
              ·exact absurd (by rw[eq_of_beq h0,eq_of_beq h1]) hxz
            clear hxz
            rcases hcs with h0|⟨h0,h1⟩
            ·refine eX ai ai ?_
             (repeat (go_big_quiet_step ((fail))));go_big_quiet_step ((go_at_call 17;exact Later.call _ (KG.out _)))
             (repeat (go_big_quiet_step ((fail))));refine wpQuiet_nil ?_;rintro _ ⟨dq,rfl⟩
             have HS2:=I (eP.out.step dq.below);have D8:=I (dF yQ.out dq.below);clear y0 y1 rU q0 v0 v1 KG eP yQ;go_wp2_with fail;go_roundw
             case rel=>exact⟨j+1,O,by go_num,HS2.out,D8.out⟩
             case measure=>simp[intOf];omega
            ·refine eX ai ai ?_
             (repeat (go_big_quiet_step ((fail))));go_big_quiet_step ((go_at_call 17;exact Later.call _ (KG.out _)))
             (repeat (go_big_quiet_step ((fail))));refine wpQuiet_nil ?_;rintro _ ⟨dq,rfl⟩
             have HS2:=I (eP.out.step dq.below);have D8:=I (dF yQ.out dq.below);clear y0 y1 rU q0 v0 v1 KG eP yQ;go_wp2_with fail;go_roundw
             case rel=>exact⟨j+1,O,by go_num,HS2.out,D8.out⟩
             case measure=>simp[intOf];omega
           ·go_wp2_with fail;go_roundw
            case rel=>exact⟨k+1,O,by go_num,HS.out⟩
            case measure=>simp[intOf];omega
         ·go_wp2_with fail;go_ret;exact⟨rfl,HS.out.ay⟩
end
namespace wholeMatching
open Go.ChangeShapes Go.WideShapes Go.ChangeAt Go.RowKit Go.Proofs.YtbedbfdhfokifaaGreat
open Go.ChangeMaps (open_string)
structure Gn where
 left:Int
 right:Int
 p:Int
 acg:Int
def Gn.cells (x:Gn):List aj:= [G F x.left,G F x.right,G F x.p,G F x.acg]
def Gn.Ok (x:Gn):Prop:=Wf x.left/\Wf x.right/\Wf x.p/\Wf x.acg
theorem alh {H:Type} {enc:TypeId×aj->H} {w:Z} {base:Nat} {spare:Nat->Bool} {held:Bool}:kN enc ak w base spare held 38 Gn.cells Gn.Ok:=
 (sO Tryz.underlying38 ai (dI (k:=1) (fB dh) rfl ai (dI (k:=1) (fB dh) rfl ai (dI (k:=1) (fB dh) rfl ai (dI (k:=1) (fB dh) rfl ai (sN _)))))).map (λp=>⟨p.1,p.2.1,p.2.2.1,p.2.2.2.1⟩) (λ_=>rfl) (λ_ h=>⟨h.1,h.2.1,h.2.2.1,h.2.2.2.1⟩)
theorem own:ownKnob ak.godebug=J:=ai
theorem laidOut:laidOutB ak=ae:=ai
theorem readable:(([36,38]:List TypeId).all λt=>Program.readableRec ak t&&decide (t<ak.types.size))=ae:=ai
theorem alK:Tryz.f3.params.toList= [36,38]:=by rw[Tryz.params3]
theorem aoZ {H:Type} {enc:TypeId×aj->H} (W:Z) (base:Nat) (args:Array aj) (ds:List (DataW H)) (p:List MemPlace)
 (hval: ∀ (j:Nat) t v,([36,38]:List TypeId)[j]? =N t->args[j]? =N v->Value.okWide ak W .any base t v)
 (hA:wY enc ak W 0 (λ_=>ae) ae [36,38] args.toList ds p):
 aF ak 3 args W λe W'=>e= .returned (aA ae)/\Below W.heap.size W W':=by
 obtain⟨v0,vs0,d0,ds0,p0,q0,hargs,rfl,rfl,h0,r0⟩:=trodAll_cons hA;obtain⟨v1,vs1,d1,ds1,p1,q1,rfl,rfl,rfl,h1,r1⟩:=trodAll_cons r0;obtain⟨rfl,rfl,rfl⟩:=trodAll_nil r1;obtain rfl:args= #[v0,v1]:=by cases args;simp_all
 have hv0:=hval 0 36 v0 rfl rfl;have hv1:=hval 1 38 v1 rfl rfl;obtain⟨bk,rfl,Om⟩:=aa2 jB ak8 hv0 h0;obtain⟨⟨cur,⟨y,m,p'⟩,⟨cl,cA,cc⟩,ro,⟨el,eA,ec⟩⟩,⟨es,sA,sc⟩,⟨rl,rA,rc⟩,⟨hl,hA2,hc⟩,b4,b5,b6⟩:=bk;obtain⟨⟨l,r,q,aZ⟩,rfl,hPo⟩:=aa2 Tryz.underlying38 alh hv1 h1;have hO:=Om.1;have hG:=ahg hO;have hcs:=hO.1;have hcl:=iT hO.2.2.1.1.2.1 hO.2.2.1.1.2.2;have hel:=iT hO.2.2.2.2.1.2.1 hO.2.2.2.2.1.2.2;have Ka:=Om.2.1;have Ow:=Om.2.2.1;have Ot:=Om.2.2.2.1;have e:(Bp.cells ⟨⟨cur,⟨y,m,p'⟩,⟨cl,cA,cc⟩,ro,⟨el,eA,ec⟩⟩,⟨es,sA,sc⟩,⟨rl,rA,rc⟩,⟨hl,hA2,hc⟩,b4,b5,b6⟩)=(kF cur y m p' cl.length cA cc ro el.length eA ec).toList++ [T sA es.length sc,T rA rl.length rc,T hA2 hl.length hc,b4.val,b5.val,av b6]:=rfl;have h3:IC (Bp.cells ⟨⟨cur,⟨y,m,p'⟩,⟨cl,cA,cc⟩,ro,⟨el,eA,ec⟩⟩,⟨es,sA,sc⟩,⟨rl,rA,rc⟩,⟨hl,hA2,hc⟩,b4,b5,b6⟩).toArray cur y m p' cl cA cc ro el eA ec es.length sA sc rl.length rA rc:=
  ⟨rfl,λj hj=>by rw[e,yE,Ic hj,q9],rfl,rfl⟩
 exact ajR _ cur y m p' cl cA cc ro el eA ec W es sA sc rl rA rc h3 hG hcs hcl hel Ka.1.1 Ka.2 (iT Ka.1.2.1 Ka.1.2.2) Ka.1.2.1 Ow.1.1 (λx hx=>⟨(Ow.2 x hx).1,(Ow.2 x hx).2.1,(Ow.2 x hx).2.2.1⟩) hl hA2 hc rfl Ot.1.1 (λx hx=>⟨(Ot.2 x hx).1,(Ot.2 x hx).2.1,(Ot.2 x hx).2.2.1⟩) ⟨_,rfl⟩ l r q aZ hPo.2.2.2
theorem lifted (os:Os) (started:os.Started) (H:Type) (enc:TypeId×aj->H):
 ReturnsInHanded {} Tryz.checked os 3 .any (Rows.wholeMatchingSpec.pre6 enc ak Tryz.f3 Rows.wholeMatchingRow.domain ag) (Rows.wholeMatchingSpec.post enc ak Tryz.f3 ag ae ag ag):=
 ajS (C:=Tryz.checked) own started ai Tryz.func3
  (ChangeSpec.witness6 (enc:=enc) (C:=Tryz.checked) ag ⟨#[],#[az #[av ⟨#[]⟩,G F 0,G F 0,G F 0,T J 0 0,G F 0,G F 0,G F 0,G F 0,G F 0,G F 0,G F 0,G F 0,G F 0,G F 0,G F 0,G F 0,G F 0,G F 0,G F 0,T J 0 0,T J 0 0,T J 0 0,T J 0 0,T J 0 0,T J 0 0,av ⟨#[]⟩],az #[G F 0,G F 0,G F 0,G F 0]],[]⟩ 8 ai ai ai ai)
  laidOut alK readable rfl iX rfl
  (λds h=>by match ds,h with| [_,_],_=>rfl)
  (λW base args ds p hval hA=>aoZ W base args ds p hval hA)
theorem bb {a b:Bool} (h:a=ae) (h2:b=ae):(a&&b)=ae:=by rw[h,h2];rfl
theorem akC:Tryz.pinned.checked.prog.funcNamed Rows.wholeMatchingRow.func=N 3:=ai
theorem aiZ:(Tryz.f3).isInstance Tryz.pinned.checked.prog Rows.wholeMatchingRow.origin Rows.wholeMatchingRow.targs:=iY ai
theorem ao8:(Tryz.f3).isWrapper Tryz.pinned.checked.prog Rows.wholeMatchingRow.wrapper Rows.wholeMatchingRow.mainSum:=by unfold Func.isWrapper;first|(rw[bB (by decide +kernel)];kernel_rfl)|(rw[bE (by decide +kernel)];exact⟨rfl,rfl⟩)
theorem afn:joinedFacts Tryz.pinned.checked.prog 3 Tryz.f3 Rows.wholeMatchingSpec Rows.wholeMatchingRow=ae:=by
 unfold joinedFacts
 repeat' (with_reducible refine bb ?_ ?_)
 all_goals as_aux_lemma=>kernel_rfl
theorem over:Rows.wholeMatchingRow.holds Tryz.pinned (OpenSpec.ofChange Rows.wholeMatchingSpec):=
 OpenClaim.holds_of_wide 3 Tryz.f3 rfl rfl rfl rfl rfl rfl rfl ⟨rfl,rfl,rfl,rfl,rfl⟩ rfl rfl rfl rfl rfl akC Tryz.func3 afn aiZ ao8
  (λos started H enc _=>lifted os started H enc)
theorem proved:Rows.WholeMatchingSaid:=over
end wholeMatching
end Go.Proofs.YtbedbfdhfokifaaGreat
