/- Part of the proof of WholeMatching. -/
import Derived.Test.YtbedbfdhfokifaaGreatJAR
import Derived.Test.YtbedbfdhfokifaaGreatJAS
import Derived.Test.YtbedbfdhfokifaaGreatJAT
import Derived.Laws.BitsAllLaws
namespace Go.Proofs.YtbedbfdhfokifaaGreat
set_option maxRecDepth 100000
set_option maxHeartbeats 16000000
set_option linter.unusedVariables false
set_option linter.unusedSimpArgs false
open _root_.And renaming intro->cz
open _root_.Array renaming replicate->kZ
open _root_.Bool renaming true->ae,false->ag
open Go renaming World->Z,Calls->aF,Addr->aG,undef->aV,CallsIn->aaM,Value->aj,maxLen->bK,Oper->dC,Program->dH,Ending->eG,Operand->lU
open Go.Ending renaming returned->bM
open Go.Fence renaming wide->lC
open Go.IntKind renaming i64->F
open Go.Obj renaming cells->U
open Go.Proofs.Tryz renaming prog->ak
open Go.Value renaming int->G,slice->T,bool->aA,pointer->aN,string->av,agg->az,tuple->bG,ownBlock->yz
open _root_.List renaming range->kJ
open _root_.Option renaming none->J,some->N
open Go.RowKit
section
open Go.Maps (Keyed)
theorem aaq:Keyed ak 79:=Mq (deep_law_laid ai (m:=4) aJ (iY ai) ai ai)
def aM.key (x:aM):aj:= az #[G F x.holder,G F x.bF,G F x.date,G F 0]
theorem aiw (x:aM) (h1:Wf x.holder) (h2:Wf x.bF) (h3:Wf x.date): ∃ l,keyOf ak 79 x.key=N l:=by
 have k1:(ak).keyType 79=ae:=ai;have k2:(ak).cellsOf 79=4:=ai;have k3:(ak).cellsOf 3=1:=ai;have h0:Wf 0:=aJ;unfold keyOf aM.key;rw[PX];simp only[k1,Value.formed,PX,k2,qC];unfold Program.keyLits;rw[PX];simp[k2,k3,Value.cells,AB _ _ h1,AB _ _ h2,AB _ _ h3,AB _ _ h0]
theorem aij {a b:aM}:a.key=b.key↔aT.same a b=ae:=by
 simp[aM.key,aT.same]
open Classical in
noncomputable def x9 (L:List aM) (k:Nat) (v:aj):Bool:=decide (∃ x∈L.take k,v=x.key)
theorem aiv (L:List aM):x9 L 0=λ_=>ag:=by
 funext v
 simp[x9]
theorem ais {n:Int} {L:List aM} (h: ∀ k,k<L.length->aT.one n L k=ae) (k:Nat) (hk:k<L.length):x9 L k L[k].key=ag:=by
 have h1:=h k hk;simp only[aT.one,bR,getD_lt L k default hk,Dv,aT.before]at h1;have h2:=h1.2;unfold x9;rw[Mo];rintro⟨x,hx,e⟩;have h3:aT.same x L[k]=ae:=aij.1 e.symm;rw[uy]at h2;exact h2 x hx h3
theorem ait (L:List aM) (k:Nat) (h:k<L.length):x9 L (k+1) L[k].key=ae:=by
 unfold x9;rw[gY h];simp only[dm];exact⟨L[k],il.2 (.inr (iJ.2 rfl)),rfl⟩
theorem aiu (L:List aM) (k:Nat) (h:k<L.length) (u:aj) (hu:u≠L[k].key):x9 L (k+1) u=x9 L k u:=by
 unfold x9;rw[gY h,qm];simp only[dm,il,iJ]
 constructor
 ·rintro⟨x,hx|rfl,e⟩
  ·exact⟨x,hx,e⟩
  ·exact absurd e hu
 ·rintro⟨x,hx,e⟩;exact⟨x,.inl hx,e⟩
theorem OL (n:Int) (L:List aM) (A:Option aG) (cp:Nat) (w:Z) (hr:Rd w w.heap.size 4 A L.length (cellsOf aM.cells L)) (hw: ∀ r∈L,Wf r.holder/\Wf r.bF/\Wf r.date) (h:aT.valid n L=ae):
 aF ak 77 #[G F n,T A L.length cp] w λe w'=>e= .returned (aA ae)/\Below w.heap.size w w':=by
 simp only[aT.valid,bR,dm]at h;obtain⟨h1,h12,EG,hone,CQ⟩:=h;have xG:Hid (∀ k,k<L.length->aT.one n L k=ae):=I (λk hk=>tO hone hk);have adQ:Hid (∀ e d,aT.total L e d<=10000):=I (aT.aoN L (λx hx=>by
  obtain⟨k,hk,rfl⟩:=zG hx;have:=tO CQ hk;unfold aT.few at this;rw[getD_lt L k default hk]at this
  simpa using this))
 have HR:=I hr;have HW:=I hw;have kr:=I (ais xG.out);have HP:Hid (∀ x∈L,aT.yl n x=ae):=I (λx hx=>by
  obtain⟨k,hk,rfl⟩:=zG hx;have:=xG.out k hk;simp only[aT.one,getD_lt L k default hk,bR]at this;exact this.1)
 have KD:=I (λW hr=>ZB L A cp W hr O (λx hx=>(hw x hx).2.2));have KT:=I (λe d W hr=>aiB L e d A cp W hr O (Oz xG.out) (λx hx=>(hw x hx).1));have hb:=aD w.heap.size w;have hmm:= @rC ak;have g1: ¬ n<1:=O;have g2: ¬ 12<n:=O;have g3: ¬ (200:Int)<(L.length:Int):=O;clear hr hw hone CQ;go_enter Tryz.func77,Tryz.ntmps77;go_wp2_with fail;go_loopw [26] (λt wr=> ∃ k:Nat,k<=L.length/\t= G F k/\fw ak 79 4 wr w.heap.size k (x9 L k)/\Below w.heap.size w wr) (λt _=>L.length - (intOf t).toNat)
 case atStart=>exact⟨0,O,rfl,by rw[aiv];exact fw.made w,hb.alloc hb.size _⟩
 case round=>
  clear hb;obtain⟨k,hk,rfl,hS,hb⟩:=hrel;have hz:=hb.size
  by_cases hlt:k<L.length
  ·obtain⟨b,o,hA,aX,f0,f1,f2,f3⟩:=aM.at_ (Rd.now HR.out hb) hlt;subst hA;obtain⟨q0,q1,q2⟩:=HW.out _ (bP hlt);have nO:=I (HP.out _ (bP hlt));have eP:=I (kr.out k hlt);have HS2:=I (ait L k hlt);have gK:=I (aiu L k hlt);generalize L[k]=x at*;have K1:=I (λW=>aiy n x W nO.out);obtain⟨kl,hkl⟩:=aiw x q0 q1 q2;unfold aM.val at K1;unfold aM.key at eP HS2 gK hkl;obtain⟨f,t,s,v⟩:=x;dsimp only at*;have HA:=I (eT wr (U #[G F f,G F t,G F s,G F v] 79) 79 #[G F f,G F t,G F s,G F 0]);have oW:=I ((au.new wr 79 #[G F f,G F t,G F s,G F v]).alloc (U #[G F f,G F t,G F s,G F 0] 79));have hbq:Below wr.heap.size wr ((wr.alloc (U #[G F f,G F t,G F s,G F v] 79)).alloc (U #[G F f,G F t,G F s,G F 0] 79)):=((aD _ _).alloc (aC _) _).alloc aL _;have nH:=ay hb hbq;have Jl:=I (hS.step hbq);clear hS hbq;go_upto_region 9 with fail
   generalize (wr.alloc (U #[G F f,G F t,G F s,G F v] 79)).alloc (U #[G F f,G F t,G F s,G F 0] 79)=w1 at*;have e0:=oW.out.cell 0;have e1:=oW.out.cell 1;have e2:=oW.out.cell 2;have e3:=oW.out.cell 3;go_upto_region 11 with (go_at_call 125;refine(K1.out _).mono ?_;rintro e w2 ⟨rfl,hb2⟩;have OA:=ay nH hb2;have yF:=I (HA.out.step hb2);have Nr:=I (Jl.out.step hb2);have g0:=yF.out.cell 0;have g1:=yF.out.cell 1;have g2:=yF.out.cell 2;have g3:=yF.out.cell 3;have iO:=Nr.out.look (t:=221) aaq iX Tryz.underlying221 (uY _) hkl;rw[eP.out]at iO;clear hb2 e0 e1 e2 e3)
   clear iO;have Km:=Nr.out;go_wp2_with (at_mapUpdate;refine Bf (x9 L (k+1)) rfl _ _ _ 221 rfl aaq iX Tryz.underlying221 Km fQ (az #[G F f,G F t,G F s,G F 0]) kl ae hkl rfl rfl rfl HS2.out (λu lu _ hu=>gK.out u hu) ?_;intro w5 hS5 hg5;have hb5:Below w.heap.size w w5:=ni OA hg5 OA.size (λj hj=>by injection hj with hj;omega);clear hg5 Km);go_roundw
   case rel=>exact⟨k+1,O,by go_num,hS5,hb5⟩
   case measure=>simp[intOf];omega
  ·clear hS;go_upto_region 14 with (go_at_call 126;refine(KD.out _ (Rd.now HR.out hb)).mono ?_;rintro e w2 ⟨v2,ss,rfl,h5,h6,h7,ah⟩;have hb2:=ay hb ah;obtain⟨A2,c2,rfl,hrd⟩:=Rd.dE h7;have HD:=I hrd;have hsl:ss.length<=bK:=(by rcases h7.2 with ⟨_,h0⟩|⟨_,_,_,_,_,_,h8,h9,_⟩<;>omega);unfold bK at hsl;clear ah h5 h6 hrd h7)
   clear hb hz;go_wp2_with fail;go_loopw [47] (λt wr=> ∃ k:Nat,k<=ss.length/\t= G F k/\Below w2.heap.size w2 wr) (λt _=>ss.length - (intOf t).toNat)
   case atStart=>exact⟨0,O,rfl,aD _ _⟩
   case round=>
    obtain⟨j,hj,rfl,hbj⟩:=hrel
    by_cases hjl:j<ss.length
    ·obtain⟨b,o,e3,hb3,hc⟩:=(Rd.now HD.out hbj).2 O;subst e3;have hcj:wr.cell? ⟨b,o+j,J⟩=N (G F ss[j]):=by
      have:=hc j (G F ss[j]) (by simp[intCells,hjl])
      simpa using this
     clear hc;have NC:=I (λe=>KT.out e ss[j]);have HT1:=I (λe=>adQ.out e ss[j]);generalize ss[j]=day at*;go_wp2_with fail;obtain⟨wo,rfl⟩: ∃ wo:Z,wo=wr:=⟨_,rfl⟩;go_loopw [52] (λt wr=> ∃ i:Nat,(i:Int)<=n/\t= G F i/\Below wo.heap.size wo wr) (λt _=>n.toNat - (intOf t).toNat)
     case atStart=>exact⟨0,O,rfl,aD _ _⟩
     case round=>
      obtain⟨i,hi,rfl,hbi⟩:=hrel;have hbw:=ay hb2 (ay hbj hbi)
      by_cases hil:(i:Int)<n
      ·have hT:=HT1.out (i:Int);have KT2:=I (NC.out (i:Int));generalize aT.total L (i:Int) day=tot at*;have hT2: ¬ (10000<tot):=O;go_wp2_with (go_at_call 127;refine(KT2.out _ (Rd.now HR.out hbw)).mono ?_;rintro e w5 ⟨rfl,ah⟩;have hb5:=ay hbi ah);go_roundw
       case rel=>exact⟨i+1,O,by go_num,hb5⟩
       case measure=>simp[intOf];omega
      ·go_wp2_with fail;go_roundw
       case rel=>exact⟨j+1,O,by go_num,ay hbj hbi⟩
       case measure=>simp[intOf];omega
    ·go_wp2_with fail;go_ret;exact⟨rfl,ay hb2 hbj⟩
end
section
open Go.Maps (Keyed)
theorem aiI (l:List Int) (ad:aG) (cap:Nat) (w:Z) (hr:Rd w w.heap.size 1 (N ad) l.length (intCells l)) (hn:l.length<=1000000):
 aF ak 322 #[T (N ad) l.length cap] w λe w'=> ∃ (A2:Option aG) (c2:Nat),e= .returned (T A2 l.length c2)/\w'.ownsRow w.heap.size 3 1 (T A2 l.length c2) l.length (intCells l)/\Below w.heap.size w w':=by
 have hnil: ∀ (w:Z) (a:Option aG) (n c n' c':Nat),(binOp .eql 60 (T a n c) (T J n' c')).run ak w= .ok (aA a.isNone) w:=λw a n c n' c'=>ME w _ _ a n c n' c' Bj
 have HR:=I hr;clear hr;obtain⟨i0,hi,hz0,hz1,hz2⟩:=jh CY;go_enter Tryz.func322,Tryz.ntmps322;go_wp2_with (at_builtin;(refine zA _ rfl (.tmp 5) (.tmp 6) 60 rfl w.heap.size 3 i0 (G F 0) 1 8 Bj hi hz0 hz1 hz2 rfl aJ _ 0 [] rfl (zn w 3 w.heap.size 1 0 (aC _) #[] rfl aJ) w.heap.size (N ad) l.length cap (intCells l) rfl (HR.out.alloc (aC _) _) (λu hu=>by obtain⟨c,_,rfl⟩:=iW.1 hu;exact OZ c _ aL) (by simp only[bK];omega) O aL ?_));intro v7 w7 eQ eU;have fu:Below w.heap.size w w7:=iI ((aD _ _).alloc (aC _) _) aL (zn w 3 w.heap.size 1 0 (aC _) #[] rfl aJ) eU;obtain⟨A2,c2,rfl,-⟩:=Rd.dE eQ;have HO:=I eQ;clear eU eQ;go_wp2_with fail;go_ret;exact⟨A2,c2,rfl,HO.out,fu⟩
structure xK where
 A:Option aG
 c:Nat
def xK.cells (n:Nat) (r:xK):List aj:= [T r.A n r.c]
def Bb (sh:Nat->Nat->Int) (n h:Nat):List Int:=(kJ n).map λe=>sh h e
theorem ab0 (sh:Nat->Nat->Int) (n h:Nat):(Bb sh n h).length=n:=by simp[Bb]
structure xO (w:Z) (B:Nat) (v:aj) (n:Nat) (sh:Nat->Nat->Int):Prop where
 rows: ∃ (A:Option aG) (c:Nat) (rs:List xK),v= T A n c/\rs.length=n/\Rd w B 1 A n (cellsOf (xK.cells n) rs)/\ ∀ i (h:i<rs.length),Rd w B 1 (rs[i]'h).A n (intCells (Bb sh n i))
def qK (w:Z) (v:aj) (n:Nat) (sh:Nat->Nat->Int):Prop:=xO w w.heap.size v n sh
theorem xO.below {w w2:Z} {B:Nat} {v:aj} {n:Nat} {sh:Nat->Nat->Int} (h:xO w B v n sh) (hb:Below B w w2):xO w2 B v n sh:=by
 obtain⟨A,c,rs,h1,h2,h3,h4⟩:=h;exact⟨A,c,rs,h1,h2,h3.below hb (aC _),λi hi=>(h4 i hi).below hb (aC _)⟩
theorem xO.mono {w:Z} {B B':Nat} {v:aj} {n:Nat} {sh:Nat->Nat->Int} (h:xO w B v n sh) (hb:B<=B'):xO w B' v n sh:=by
 obtain⟨A,c,rs,h1,h2,h3,h4⟩:=h;exact⟨A,c,rs,h1,h2,h3.more hb,λi hi=>(h4 i hi).more hb⟩
theorem qK.step {w w2:Z} {v:aj} {n:Nat} {sh:Nat->Nat->Int} (h:qK w v n sh) (hb:Below w.heap.size w w2):qK w2 v n sh:=(xO.below h hb).mono hb.size
def uX (f:Nat->Int) (e:Nat):Array aj:=((kJ 12).map λi=>G .i64 (if i<e then f i else 0)).toArray
theorem ank (f:Nat->Int):uX f 0= #[G F 0,G F 0,G F 0,G F 0,G F 0,G F 0,G F 0,G F 0,G F 0,G F 0,G F 0,G F 0]:=rfl
theorem anj (f:Nat->Int) (e:Nat) (he:e<12):(uX f e).setIfInBounds e (G F (f e))=uX f (e+1):=by
 apply Array.ext
 ·simp[uX]
 ·intro i h1 h2;simp only[uX,Zi,MG,Vz,vw,Mh]at h1 h2 |-
  by_cases e1:e=i
  ·subst e1;simp
  ·rw[bE e1];have:(i<e)↔(i<e+1):=O;simp only[this]
theorem ani (f:Nat->Int) (e i:Nat) (h:i<e) (he:e<=12):(uX f e)[i]? =N (G F (f i)):=by
 have:i<12:=O;simp[uX,this,h]
theorem anh (f:Nat->Int) (e:Nat) (he:e<12):(uX f e)[e]? =N (G F 0):=by
 simp[uX,he]
theorem ai6:(ak.info? 60).map (λi=>(i.zero,i.size,i.bytes))=N (N (T J 0 0),1,24):=ai
theorem aa7 {w:Z} {b1 b2:Nat} {e1 e2:TypeId} {s1 s2 n1 n2:Nat} {v1 v2:aj} {x1 x2:List aj} (h:w.ownsRow b1 e1 s1 v1 n1 x1) (g:w.ownsRow b2 e2 s2 v2 n2 x2) (hne:e1≠e2):v1.ownBlock=J\/v1.ownBlock≠v2.ownBlock:=by
 rcases h.2 with ⟨h,_⟩|⟨g1,cap,cur,h,_,hg,_⟩
 ·left;rw[h];rfl
 ·right
  rw[h];exact gF g (show au w g1 e1 cur from hg) hne
theorem ZW (n:Nat) (L:List aM) (A:Option aG) (cp:Nat) (day:Int) (w:Z) (hr:Rd w w.heap.size 4 A L.length (cellsOf aM.cells L)) (hw: ∀ r∈L,Wf r.holder/\Wf r.bF/\Wf r.date) (h:aT.valid n L=ae) (hd:Gr.eZ day=ae):
 aF ak 316 #[G F n,T A L.length cp,G F day] w λe w'=> ∃ v,e= .returned (.tuple #[v,G F 0])/\qK w' v n (λh e=>aT.at_ L (h:Nat) (e:Nat) day)/\Below w.heap.size w w':=by
 have hn:n<=12/\L.length<=200:=by
  simp only[aT.valid,bR,dm]at h;exact⟨by omega,O⟩
 obtain⟨iF,ap2⟩:=hn;have HR:=I hr;have KV:=I (λW hr=>OL n L A cp W hr hw h);have KD:Hid (∀ W:Z,aF ak 84 #[G F day] W λe w'=>e= bM (aA (Gr.eZ day))/\W=w'):=I (λW=>Cm day W);rw[hd]at KD;have KA:=I (λh e W hr=>Zu L A cp h e day W hr O);have hb:=aD w.heap.size w;obtain⟨i0,hi0,hz0,hz1,hz2⟩:=jh ai6;obtain⟨sh,hsh⟩: ∃ sh:Nat->Nat->Int,sh=λh e=>aT.at_ L (h:Nat) (e:Nat) day:=⟨_,rfl⟩
 have HSH:=I hsh;rw[<- hsh];clear hr hw h hd hsh;go_enter Tryz.func316,Tryz.ntmps316;go_upto_region 7 with (first
  |(go_at_call 77;refine(KV.out _ (Rd.now HR.out hb)).mono ?_;rintro e w2 ⟨rfl,ah⟩;have hb2:=ay hb ah;clear ah)
  |(go_at_call 84;refine(KD.out _).mono ?_;rintro e w3 ⟨rfl,rfl⟩))
 clear hb KV KD;go_loopw [8,20] (λs t wr=> ∃ (h:Nat) (rs:List xK),h<=n/\t= G F h/\rs.length=h/\wr.ownsRow w.heap.size 60 1 s rs.length (cellsOf (xK.cells n) rs)/\(∀ i (hi:i<rs.length),wr.ownsRow w.heap.size 3 1 (T (rs[i]'hi).A n (rs[i]'hi).c) n (intCells (Bb sh n i)))/\Below w.heap.size w wr) (λ_ t _=>n - (intOf t).toNat)
 case atStart=>exact⟨0,[],O,rfl,rfl,jZ _ _ _ _,λi hi=>by simp at hi,hb2⟩
 case round=>
  clear hb2;obtain⟨h,rs,hhn,rfl,hrs,hown,hrows,hb⟩:=hrel;have HO:=I hown;have HRW:=I hrows;have ap6:rs.length<=h:=O;have ap7:h<=rs.length:=O;have hz:=hb.size;clear hown hrows hrs
  by_cases hlt:h<n
  ·have hq0:Below wr.heap.size wr (wr.alloc (U (uX (sh h) 0) 171)):=(aD _ _).alloc (aC _) _;have HB0:=I (au.new wr 171 (uX (sh h) 0));rw[ank]at hq0;have VS:Hid (au (wr.alloc (U #[G F 0,G F 0,G F 0,G F 0,G F 0,G F 0,G F 0,G F 0,G F 0,G F 0,G F 0,G F 0] 171)) wr.heap.size 171 (uX (sh h) 0)):=HB0;clear HB0;go_upto_region 11 with fail
   generalize wr.alloc (U #[G F 0,G F 0,G F 0,G F 0,G F 0,G F 0,G F 0,G F 0,G F 0,G F 0,G F 0,G F 0] 171)=w1 at*;obtain⟨wo,hwo⟩: ∃ wo:Z,wo=wr:=⟨_,rfl⟩;subst hwo;go_loopw [24] (λt wr=> ∃ e:Nat,e<=n/\t= G F e/\au wr wo.heap.size 171 (uX (sh h) e)/\Below wo.heap.size wo wr) (λt _=>n - (intOf t).toNat)
   case atStart=>exact⟨0,O,rfl,VS.out,hq0⟩
   case round=>
    clear VS hq0;obtain⟨e,hen,rfl,hB,hq⟩:=hrel;have HB:=I hB;clear hB
    by_cases hel:e<n
    ·have apK:(e:Int)<12:=O;have Ju:Hid (∀ W:Z,Rd W W.heap.size 4 A L.length (cellsOf aM.cells L)->aF ak 178 #[T A L.length cp,G F h,G F e,G F day] W (Gj (sh h e) W)):=I (λW hr=>by rw[HSH.out];exact KA.out h e W hr);have hbq:=ay hb hq;have HS:=I (anj (sh h) e O);have HAT:=I (anh (sh h) e O);generalize sh h e=x at*;go_upto_region 14 with (go_at_call 178;go_loud (refine(Ju.out _ (Rd.now HR.out hbq)).mono ?_;rintro ee w3 ⟨rfl,ah⟩;have hq3:=ay hq ah;have HB3:=I (HB.out.step ah);have c3:w3.cell? ⟨wo.heap.size,e,J⟩=N (G F 0):=(by rw[HB3.out.cell];exact HAT.out);have z3:=HB3.out.frozen e))
     have hB4:=HB3.out.bZ e (G F x);rw[HS.out]at hB4;have hq4:Below wo.heap.size wo (w3.setCell ⟨wo.heap.size,e,J⟩ (G F x)):=hq3.setCell (aC _) _;go_wp2;go_roundw
     case rel=>exact⟨e+1,O,by go_num,hB4,hq4⟩
     case measure=>simp[intOf];omega
    ·have he1:e<=n:=hen;have he2:n<=e:=O;have hrd:Rd wr wr.heap.size 1 (N ⟨wo.heap.size,0,J⟩) (Bb sh n h).length (intCells (Bb sh n h)):=by
      refine⟨by simp[intCells],λ_=>⟨wo.heap.size,0,rfl,HB.out.lt,λj u hu=> ?_⟩⟩;rw[nN,HB.out.cell];simp only[intCells,Bb,Iu,VA]at hu
      by_cases hj:j<n
      ·rw[List.getElem?_range hj]at hu;rw[ani _ _ _ O O]
       simpa using hu
      ·rw[MH bL]at hu;simp at hu
     have KC:=I (aiI (Bb sh n h) ⟨wo.heap.size,0,J⟩ 12 wr hrd (by rw[ab0];omega));rw[ab0]at KC;have hbq:=ay hb hq;have gm:=I (dF HO.out hq);have adD:=I (λi hi=>dF (HRW.out i hi) hq);have hal:(ak).arrayLen 171=12:=ai;have TG:(ak).elem 171=3:=ai;have hsl: ∀ W:Z,(Instr.sliceAt 171 (aN (N ⟨wo.heap.size,0,J⟩)) J (N (G F n)) J).run ak W= .ok (T (N ⟨wo.heap.size,0,J⟩) n 12) W:=λW=>by
      rw[run_sliceAt_array_h W 171 ⟨wo.heap.size,0,J⟩ (by rw[hal,TG];exact Tryz.underlying171) .i64 n O (by rw[hal];omega),TG,Tryz.sizeOf3,hal]
      by_cases h12:n=0
      ·subst h12;omega
      ·simp[slicedAt,Result.andThen]
       rfl
     clear hrd he1 he2 HB hal TG;go_wp2_with (first
      |(go_at_call 322;(refine KC.out.mono ?_;rintro ee w3 ⟨A2,c2,rfl,hc3,ah⟩;have hb3:=ay hbq ah;have jq:=I (dF gm.out ah);have WS:=I (λi hi=>dF (adD.out i hi) ah);have VU:=I (oO hc3 hbq.size);clear hc3 ah))
      |(at_builtin;(refine yw (xK.cells n) 1 (λ_=>rfl) (λr u hu=>by simp only[xK.cells,iJ]at hu;subst hu;rfl) rfl (.tmp 35) (.tmp 39) 379 rfl w.heap.size 60 i0 (T J 0 0) 24 Tryz.underlying379 hi0 hz0 hz1 hz2 rfl aJ _ rs rfl (jq.out.alloc _) w3.heap.size 1 ⟨A2,c2⟩ #[T A2 n c2] rfl (au.new w3 _ _) rfl (by simp only[bK];omega) O (by have:=hb3.size;simp;omega) ?_;intro v5 w5 nI hg5)))
     have hb5:Below w.heap.size w w5:=iI (hb3.alloc hb3.size _) (by simp;have:=hb3.size;omega) (jq.out.alloc _) hg5;have Jh:=I (λi hi=>((WS.out i hi).alloc (U #[T A2 n c2] 60)).kept hg5 (aa7 (WS.out i hi) jq.out aJ));have MW:=I ((VU.out.alloc (U #[T A2 n c2] 60)).kept hg5 (aa7 VU.out jq.out aJ));have mO:=I nI;clear hg5 nI;go_wp2_with fail;go_roundw
     case rel=>
      refine⟨h+1,rs++ [⟨A2,c2⟩],O,by go_num,bL,mO.out,λi hi=> ?_,hb5⟩;rw[fK,ow]at hi
      by_cases hil:i<rs.length
      ·simp only[List.getElem_append_left hil];exact Jh.out i hil
      ·obtain rfl:i=h:=O;have e1:(rs++ [(⟨A2,c2⟩:xK)])[i]'bL=⟨A2,c2⟩:=by
        rw[List.getElem_append_right O];simp
       rw[e1];exact MW.out
     case measure=>simp[intOf];omega
  ·have hln:rs.length=n:=O;obtain⟨A2,c2,rfl,hrd⟩:=Rd.dE HO.out;rw[hln]at hrd;have HM:Hid (qK wr (T A2 rs.length c2) n sh):=I ⟨A2,c2,rs,by rw[hln],hln,hrd,λi hi=>by
    obtain⟨A3,c3,e3,h3⟩:=Rd.dE (HRW.out i hi);injection e3 with e3 _ _
    rw[e3];exact h3⟩
   clear hrd hln;go_wp2_with fail;go_ret2;exact⟨_,rfl,HM.out,hb⟩
end
theorem U4 (s i:Nat) (hs:s<65536):bits .and .u16 ((s:Int) / 2 ^ i) 1=if s.testBit i then 1 else 0:=by
 have e:((s:Int) / 2 ^ i)=((s / 2 ^ i:Nat):Int):=aL;have h1:s / 2 ^ i<65536:=Nat.lt_of_le_of_lt (Nat.div_le_self _ _) hs;have h2:=u16_and_nat (s / 2 ^ i) 1 h1 aJ;rw[e];have e1:((1:Nat):Int)=1:=rfl;rw[e1]at h2;rw[h2,Nat.and_one_is_mod,acp]
 by_cases c:s / 2 ^ i % 2=1
 ·simp[c]
 ·have:s / 2 ^ i % 2=0:=O;simp[this]
theorem qK.len {w:Z} {v:aj} {n:Nat} {sh:Nat->Nat->Int} (h:qK w v n sh): ∃ A c,v= T A n c:=by
 obtain⟨A,c,_,h,_⟩:=h.rows;exact⟨A,c,h⟩
theorem Yt (v:aj) (n:Nat) (sh:Nat->Nat->Int) (set e:Nat) (w:Z) (h:qK w v n sh) (hn:n<=12) (he:e<n) (hs:set<65536) (hb: ∀ i e,i<n->0<=sh i e/\sh i e<=10000):
 aF ak 318 #[v,.int .u16 set,G F e] w λee w'=>ee= bM (G F (Ct.jW sh set e n))/\w=w':=by
 obtain⟨A,c,rs,rfl,hrs,hr,hrow⟩:=h.rows;have HR:=I hr;have HW:=I hrow;have HS:=I hb;have HL:=I hrs;have Qy:=I (λi=>U4 set i hs);clear h hr hrow hb hrs;go_enter Tryz.func318,Tryz.ntmps318;go_wp2_with fail;go_loopw [7,12] (λs t wr=> ∃ k:Nat,k<=n/\t= G F k/\s= G F (Ct.jW sh set e k)/\w=wr) (λ_ t _=>n - (intOf t).toNat)
 case atStart=>exact⟨0,O,rfl,rfl,rfl⟩
 case round=>
  obtain⟨k,hk,rfl,rfl,rfl⟩:=hrel;have hvb:=Ct.aoX sh set e k (λi hi=>HS.out i e O)
  by_cases hlt:k<n
  ·have hkr:k<rs.length:=by rw[HL.out];exact hlt
   obtain⟨b,o,hA,aX,hc⟩:=HR.out.2 O;have hc0:=hc k (T (rs[k]'hkr).A n (rs[k]'hkr).c) (by
    have:=Ex (f:=xK.cells n) (sz:=1) (λ_=>rfl) rs k 0 hkr O
    simpa [xK.cells] using this)
   have Z7:=HW.out k hkr;have HV:Hid (Ct.jW sh set e (k+1)=Ct.jW sh set e k+if set.testBit k then sh k e else 0):=I rfl;generalize rs[k]'hkr=r at*;obtain⟨rA,rc⟩:=r;dsimp only at*;obtain⟨b2,o2,hA2,qR,hd⟩:=Z7.2 O;have hd0:=hd e (G F (sh k e)) (by simp[intCells,Bb,he]);have hsb:=HS.out k e hlt;have hbt:=Qy.out k;subst hA hA2;clear hc hd Z7;generalize sh k e=x at*;have hz1:(e:Int)<n:=O;have hz2:(k:Int)<=16:=O
   cases hq:set.testBit k
   ·rw[hq]at hbt HV;simp only[zI,zJ]at hbt HV;go_wp2_with fail;go_roundw
    case rel=>exact⟨k+1,O,by go_num,by rw[HV.out];simp,trivial⟩
    case measure=>simp[intOf];omega
   ·rw[hq]at hbt HV;simp only[sV]at hbt HV;go_wp2_with fail;go_roundw
    case rel=>exact⟨k+1,O,by go_num,by rw[HV.out],trivial⟩
    case measure=>simp[intOf];omega
  ·obtain rfl:k=n:=O;go_wp2_with fail;go_ret;exact⟨rfl,rfl⟩
section
open Go.RowKit Go.Shelf
attribute [local go_sem] Oper.semAt_some
def encS (x:Nat×Nat):Array aj:= #[G F x.1,.int .u16 x.2]
theorem UI (a b:Nat) (ha:a<65536) (hb:b<65536):bits .or .u16 (a:Int) (b:Int)=((a ||| b:Nat):Int):=u16_or_nat a b ha hb
theorem anU (e:Nat) (he:e<=12):IntKind.u16.wrap (2 ^ e)=((2 ^ e:Nat):Int):=by
 have h1:2 ^ e<=2 ^ 12:=uA O he;have e1:((2:Int) ^ e)=((2 ^ e:Nat):Int):=aL;rw[IntKind.wrap_u16,e1];generalize (2 ^ e:Nat)=p at*;omega
theorem ab6 (bf:Fence) (q m:Nat) (hq:3<=q) (Ta:bf.fn 323) (hfn:bf.fn 318) (hro:bf.round=J) (v:aj) (n:Nat) (sh:Nat->Nat->Int) (s b:Nat) (w:Z) (h:xO w s v n sh) (hs:s<=w.heap.size) (hn:1<=n) (iF:n<=12) (hbd: ∀ i e,i<n->0<=sh i e/\sh i e<=10000)
 (hm:Ct.fr sh n m=0) (hm2: ∀ k,k<m->Ct.fr sh n k≠0) (Ay:m<=5000) (b0:au w b 379 #[v])
 (hV: ∀ (set e:Nat) (W:Z),qK W v n sh->e<n->set<65536->aaM bf (q - 1) ak 318 #[v,.int .u16 set,G F e] W λee w'=>ee= bM (G F (Ct.jW sh set e n))/\W=w'):
 SeqStopsK bf q ak 323 #[aN (N ⟨b,0,J⟩)] encS (fI s b 1) (λys=>ys=Ct.sets sh n m) (λ_=>True) (Ct.sets sh n m).length w:=λl' fF Jx W hW hJ hJx hY h0=>by
 have HM:Hid (xO W s v n sh):=I (h.below (hW.mono hs));have HB0:Hid (au W b 379 #[v]):=I (b0.below hW b0.lt);have OJ:s<=W.heap.size:=iT hs hW.size;have HJ:Hid (∀ s A o,fF s A->fF s (A.alloc o)):=I λs A o hs=>hJ s A _ J hs (zB A o J) (λr e=>by cases e)
 have HY:=I hY;have WB:=I hm;have HMN:=I hm2;have DK:=I hbd;have IK:=I (λj=>ji (Ct.Gp sh n hn j) (iT (uA O iF) (show 2 ^ 12<=65536 by decide)));have HFR:=I (λj=>ji (Ct.SG sh n hn j) (iT (uA O iF) (show 2 ^ 12<=65536 by decide)));clear h b0 hW hJ hJx hY hm hm2 hbd;have h1:1<=q:=O;have HV:=I hV;clear hV;refine Bl Tryz.func323 rfl Ta ?_ hro;simp only[Tryz.ntmps323,nk,gX,mI,Nat.reduceAdd,Nat.reduceSub,qy,qz,qA,qB,oU,oV];gi_wp2;gi_loopw [3,4,5] (λx y z wr=> ∃ k:Nat,k<=m/\(k=0->x= .int .u16 1/\y= .int .u16 1)/\x= .int .u16 (Ct.al sh n k)/\y= .int .u16 (Ct.fr sh n k)/\z= G F k/\fF (Ct.sets sh n k) wr/\fI s b 1 W wr) (λ_ _ z _=>m - (intOf z).toNat)
 case atStart=>exact⟨0,lq _,λ_=>⟨rfl,rfl⟩,rfl,rfl,rfl,h0,fI.refl _ _ _ _⟩
 case round=>
  clear h0;obtain⟨k,hk,-,rfl,rfl,rfl,hJs,hK⟩:=hrel;have hz:=hK.1.size
  by_cases hlt:k<m
  ·have hne:=HMN.out k hlt;have hnz: ¬ ((Ct.fr sh n k:Nat):Int)=0:=O;have hnd:(((Ct.fr sh n k:Nat):Int)==0)=ag:=by simpa using hnz
   have hnq:(((Ct.fr sh n k:Nat):Int) !=0)=ae:=by simpa using hnz
   have HT:=I (Ct.Pw sh n k);have pQ:=I hJs;have IJ:=I (IK.out k);have HA1:=I (Ct.JC sh n k);have iU:=I (Ct.GG sh n k);have uP:=HY.out (Ct.sets sh n k) (k,Ct.fr sh n k) wr hJs (by rw[Ct.abZ,Ct.abZ];exact hlt);unfold encS at uP;dsimp only at uP;obtain⟨fn,tmps,assign,body,hy,hR⟩:=uP;have xq:=I (HFR.out (k+1));generalize Ct.fr sh n k=f0 at*;generalize Ct.al sh n k=a0 at*;clear hJs hne;gi_wp2;refine hR.mono ?_;rintro ee W3 (⟨rfl,hJ3,hk3⟩|⟨rfl,hJx3⟩)
   ·have hk4:=hK.trans hk3;have xA:=I hJ3;clear hk3 hJ3 hR hy;obtain⟨A,c,hv⟩:=(HM.out.rows);obtain⟨rs,hv,hrs,hrr,hrw⟩:=hv;subst hv;have vQ:Hid (xO W s (T A n c) n sh):=HM;have e1:W3.cell? ⟨b,0,J⟩=N (T A n c):=(hk4.blk HB0.out (aC _) O).cell 0;clear hrs hrr hrw;have KV:=I (λe (he:e<n)=>HV.out a0 e W3 ((vQ.out.below hk4.1).mono (by have:=hk4.1.size;omega)) he IJ.out);have HSB:=I (λe (he:e<n)=>U4 a0 e IJ.out);gi_wp2;gi_loopw [4,20] (λx t wr=> ∃ e:Nat,e<=n/\t= G F e/\x= .int .u16 (Ct.fresh sh n a0 e)/\wr=W3) (λ_ t _=>n - (intOf t).toNat)
    case atStart=>exact⟨0,lq _,rfl,rfl,rfl⟩
    case round=>
     obtain⟨e,hen,rfl,rfl,rfl⟩:=hrel
     by_cases hel:e<n
     ·have hbt:=HSB.out e hel;have HQ:Hid (Ct.fresh sh n a0 (e+1)=if a0.testBit e=ag/\5000<Ct.jW sh a0 e n then Ct.fresh sh n a0 e ||| 2 ^ e else Ct.fresh sh n a0 e):=I rfl;have aia:=Ct.ag5 (sh:=sh) (n:=n) (all:=a0) (k:=e) O;have BP:=I (KV.out e hel);have hz2:(e:Int)<=16:=O;have hor:bits .or .u16 ((Ct.fresh sh n a0 e:Nat):Int) (2 ^ e)=((Ct.fresh sh n a0 e ||| 2 ^ e:Nat):Int):=by
       have:=UI (Ct.fresh sh n a0 e) (2 ^ e) aia (by have:2 ^ e<=2 ^ 12:=uA O O;omega)
       simpa using this
      have hsh:=anU e O
      cases hq1:a0.testBit e
      ·rw[hq1]at hbt HQ;simp only[zI,zJ,true_and]at hbt HQ
       by_cases hv5:5000<Ct.jW sh a0 e n
       ·rw[bB hv5]at HQ;have aiD:decide (5000<Ct.jW sh a0 e n)=ae:=kK hv5;gi_wp2_with (gi_at_call 318;refine(BP.out).mono ?_;rintro e2 w5 ⟨rfl,rfl⟩);go_roundw
        case rel=>exact⟨e+1,O,by go_num,by rw[HQ.out],trivial⟩
        case measure=>simp[intOf];omega
       ·rw[bE hv5]at HQ;have aiD:decide (5000<Ct.jW sh a0 e n)=ag:=iw hv5;gi_wp2_with (gi_at_call 318;refine(BP.out).mono ?_;rintro e2 w5 ⟨rfl,rfl⟩);go_roundw
        case rel=>exact⟨e+1,O,by go_num,by rw[HQ.out],trivial⟩
        case measure=>simp[intOf];omega
      ·rw[hq1]at hbt HQ;simp only[sV,Bool.true_eq_false,false_and,zJ]at hbt HQ;gi_wp2;go_roundw
       case rel=>exact⟨e+1,O,by go_num,by rw[HQ.out],trivial⟩
       case measure=>simp[intOf];omega
     ·obtain rfl:e=n:=O;have hor:=UI a0 (Ct.fresh sh e a0 e) IJ.out (by rw[<- iU.out];exact xq.out);gi_wp2;go_roundw
      case rel=>exact⟨k+1,O,λh=>O,by rw[HA1.out,iU.out],by rw[iU.out],by go_num,by rw[HT.out];exact xA.out,hk4⟩
      case measure=>simp[intOf];omega
   ·gi_wp2;go_end0;exact⟨⟨_,rfl⟩,.inr ⟨_,trivial,hJx3⟩⟩
  ·obtain rfl:k=m:=O;have hz0:((Ct.fr sh n k:Nat):Int)=0:=by rw[WB.out];rfl
   have hz9:Ct.fr sh n k=0:=WB.out;have xC:=I hJs;clear hJs;gi_wp2;refine⟨λ_ h=>(by cases h),?_⟩;gi_wp2;go_end0;exact⟨⟨_,rfl⟩,.inl ⟨_,rfl,xC.out⟩⟩
end
section
open Go.RowKit Go.Shelf
attribute [local go_sem] Oper.semAt_some
theorem ab5 (bf:Fence) (n:Nat) (hF:bf.fn 317) (hro:bf.round=J) (A:Option aG) (m c:Nat) (w:Z):
 aaM bf n ak 317 #[T A m c] w λee w'=>ee= bM (.func (.func 323) #[] #[aN (N ⟨w.heap.size,0,J⟩)])/\w'=w.alloc (U #[T A m c] 379):=by
 refine Bl Tryz.func317 rfl hF ?_ hro;simp only[Tryz.ntmps317,nk,gX,mI,Nat.reduceAdd,Nat.reduceSub,qy,qz,qA,qB,oU,oV];gi_wp2;go_ret;exact⟨rfl,rfl⟩
def uOr (pre:List (Nat×Nat)):Int:=pre.foldl (λa x=>bits .or .u16 a x.2) 0
theorem ach (pre:List (Nat×Nat)) (x:Nat×Nat):uOr (pre++ [x])=bits .or .u16 (uOr pre) x.2:=by simp[uOr]
theorem aoP {sh:Nat->Nat->Int} {n:Nat} (hn:1<=n) (iF:n<=12) (m:Nat):uOr (Ct.sets sh n m)=((Ct.union ((Ct.sets sh n m).map (·.2)):Nat):Int):=by
 have h16:2 ^ n<=65536:=iT (uA O iF) aJ
 induction m with
 |zero=>rfl
 |succ m ih=>
  have h1:=Ct.SG sh n hn m;have h2:Ct.union ((Ct.sets sh n m).map (·.2))<65536:=by
   cases m with
   |zero=>exact(show (0:Nat)<65536 by decide)
   |succ m=>rw[Ct.Ve];have:=Ct.Gp sh n hn m;omega
  rw[Ct.Pw,ach,ih,mJ,VC,Ct.Vf];exact UI _ _ h2 O
def N8 (sh:Nat->Nat->Int) (n:Nat):List Int:=(kJ n).map λe=>Ct.jW sh (Ct.found sh n 1) e n
def R4 (sh:Nat->Nat->Int) (n:Nat) (w:Z) (e:eG) (w':Z):Prop:=
 ∃ v,e= .returned (.tuple #[v,G F 0])/\w'.ownsRow w.heap.size 3 1 v n (intCells (N8 sh n))/\Below w.heap.size w w'
theorem afK (bf:Fence) (q:Nat) (hq:5<=q) (Av:bf.fn 304) (hF1:bf.fn 317) (hF2:bf.fn 323) (Kb:bf.fn 318) (SY:bf.fn 316) (hro:bf.round=J) (n:Nat) (hn:1<=n) (iF:n<=12) (sh:Nat->Nat->Int) (hbd: ∀ i e,i<n->0<=sh i e/\sh i e<=10000) (lv:aj) (day:Int) (w:Z)
 (hM:aaM bf (q - 1) ak 316 #[G F n,lv,G F day] w λe w'=> ∃ v,e= .returned (.tuple #[v,G F 0])/\qK w' v n sh/\Below w.heap.size w w')
 (hV: ∀ (p:Nat) (v:aj) (set e:Nat) (W:Z),qK W v n sh->e<n->set<65536->aaM bf p ak 318 #[v,.int .u16 set,G F e] W λee w'=>ee= bM (G F (Ct.jW sh set e n))/\W=w'):
 aaM bf q ak 304 #[G F n,lv,G F day] w (R4 sh n w):=by
 have h1:1<=q:=O;obtain⟨m,hm1,hm2,Ay,KY⟩:=Ct.stops sh n hn;have TY:m<=5000:=iT hm2 (iT (uA O iF) aJ);have HM:=I hM;have HV:=I hV;have DK:=I hbd;have tK:=I Ay;have DZ:=I KY;have yI:Hid (uOr (Ct.sets sh n m)=(Ct.found sh n 1:Nat)):=I (by
  rw[aoP hn iF]
  congr 1
  obtain⟨j,rfl⟩: ∃ j,m=j+1:=⟨m - 1,O⟩;rw[Ct.Ve,Ct.SF sh n hn (j+1) hm1 Ay,VB])
 clear hM hV hbd hm2 Ay KY;refine callsIn_of_wp_marks Tryz.func304 rfl Av ?_ hro;simp only[Tryz.ntmps304,nk,gX,mI,Nat.reduceAdd,Nat.reduceSub,qy,qz,qA,qB,oU,oV];gi_wp2_with (first
  |(gi_at_call 316;refine(HM.out).mono ?_;rintro e w2 ⟨v,rfl,EP,hb2⟩;obtain⟨A,c,rfl⟩:=qK.len EP;have Ni:=I EP;clear EP)
  |(gi_at_call 317;refine(ab5 bf (q - 1) hF1 hro _ _ _ _).mono ?_;rintro e w' ⟨rfl,rfl⟩))
 have hz2:=hb2.size;obtain⟨W0,hW0⟩: ∃ W0,(w2.alloc (U #[.int .u16 0] 382)).alloc (U #[T A n c] 379)=W0:=⟨_,rfl⟩;have hsz:W0.heap.size=w2.heap.size+1+1:=by rw[<- hW0];simp
 have hB0:Below w2.heap.size w2 W0:=by rw[<- hW0];exact((aD _ w2).alloc (aC _) _).alloc aL _
 have k0:au W0 w2.heap.size 382 #[.int .u16 0]:=by rw[<- hW0];exact(au.new w2 382 #[.int .u16 0]).alloc _
 have k1:au W0 (w2.heap.size+1) 379 #[T A n c]:=by rw[<- hW0];exact eT w2 _ _ _
 rw[hW0];clear hW0;refine wpIn_rangeFunc_ownH hro h1 (gf:=323) (lb:= #[aN (N ⟨w2.heap.size+1,0,J⟩)]) rfl hF2 (enters_of Tryz.func323 ai rfl)
  (ab6 bf (q - 1) m O hF2 Kb hro (T A n c) n sh w2.heap.size (w2.heap.size+1) W0 (Ni.out.below hB0) O hn iF DK.out tK.out DZ.out TY k1 (λset e W h1 h2 h3=>HV.out _ _ set e W h1 h2 h3)) Lf
  (λW l o o' hl h1 h2 h3=>⟨belowK_b (w:=W0) O W l o o' hl h1 h2 h3,λB _ hB=>World.putObj_heap_other O⟩) (aD _ _) (λ_=>rfl)
  (λ(pre:List (Nat×Nat)) W=>au W w2.heap.size 382 #[.int .u16 (uOr pre)]/\(au W (w2.heap.size+1) 379 #[T A n c]/\Below w2.heap.size w2 W))
  (λ_ _ _=>False)
  (OwnFrom.and (Own.from (Gq _ _ (λ(pre:List (Nat×Nat))=> #[.int .u16 (uOr pre)])) _) (OwnFrom.and (Own.from (nC _ _ _) _) (ownFrom_below (aC _) O)))
  (λ_ _ _ _ _ hs _ _=>hs)
  ⟨k0,k1,hB0⟩
  (λ(x:Nat×Nat) a' W=>a'= { tmps:= #[G F n,lv,G F day,aV,aV,aV,T J 0 0,G F 0,T A n c,G F 0,aN (N ⟨w2.heap.size,0,J⟩),aV,.int .u16 x.2,aV,aV,bG #[T A n c,G F 0],G F n,lv,G F day,bG #[T A n c,G F 0],T A n c,G F 0,G F 0,aA ag,aV,T A n c,.func (.func 323) #[] #[aN (N ⟨w2.heap.size+1,0,J⟩)],G F x.1,.int .u16 x.2,aV,aV,aV,aV,aV,aV,aV,aV,aV,aV,aV,aV,aV,aV,aV,aV,aV,aV,aV],defers:= [] })
  (λx a' _ X Y row hs hg hr=>hs)
  ?assign ?body ?done ?stop
 case assign=>
  rintro l' pre x W K ⟨i0,i1,hB1⟩ hK;unfold encS;gi_wp2;exact hK _ _ (KeepsFrom.refl _ _) (fI.refl _ _ _ _) ⟨i0,i1,hB1⟩ rfl
 case body=>
  rintro l' pre x a' W hl ⟨r,hr⟩ ⟨i0,i1,hB1⟩ rfl hlt;have e0:=i0.cell 0;have z0:=i0.frozen 0;have HS:=I (ach pre x);have hn1:=i0.bZ 0 (.int .u16 (bits .or .u16 (uOr pre) x.2));have hn2:=i1.far (p:=⟨w2.heap.size,0,J⟩) (by show w2.heap.size+1≠w2.heap.size;omega) (.int .u16 (bits .or .u16 (uOr pre) x.2));have hb3:=hB1.setCell (p:=⟨w2.heap.size,0,J⟩) (aC _) (.int .u16 (bits .or .u16 (uOr pre) x.2));have hk3:fI w2.heap.size (w2.heap.size+1) 1 W (W.setCell ⟨w2.heap.size,0,J⟩ (.int .u16 (bits .or .u16 (uOr pre) x.2))):=(fI.refl _ _ _ _).set _ _ (aC _) (by show w2.heap.size<_;omega);have HN:=I (cz hn1 (cz hn2 (cz hb3 hk3)));clear hn1 hn2 hb3 hk3 i0 i1 hB1;gi_wp2;exact⟨(KeepsOthers.setCell _ _ _).from _,HN.out.2.2.2,by rw[HS.out];exact HN.out.1,HN.out.2.1,HN.out.2.2.1⟩
 case done=>
  rintro D ys W hD rfl ⟨i0,i1,hB1⟩ hK;rw[yI.out]at i0;have e0:=i0.cell 0;have hbw:=hb2.trans (hB1.mono hz2);have hmk: ∀ X:Z,(Instr.makeSlice 60 (G F n) (G F n)).run ak X= .ok (T (N ⟨X.heap.size,0,J⟩) n n) (X.alloc (U (kZ n (G F 0)) 3)):=λX=>G7 60 3 (G F 0) 8 Bj CY rfl .i64 .i64 n O O X
  have hW2:=hB1.size;have HK:=I hK;have Ja:=I ((Ni.out.below hB1).mono hW2);have wZ:=I i0;have hlW:=i0.lt;clear i0 i1 hK;gi_wp2;have gB:=I (au.new W 3 (upTo (λe=> G F (Ct.jW sh (Ct.found sh n 1) e n)) (G F 0) n 0).toArray);have Ud:Below W.heap.size W (W.alloc (U (upTo (λe=> G F (Ct.jW sh (Ct.found sh n 1) e n)) (G F 0) n 0).toArray 3)):=(aD _ _).alloc (aC _) _;rw[LM,MI]at Ud;have mK:Hid (au (W.alloc (U (kZ n (G F 0)) 3)) W.heap.size 3 (upTo (λe=> G F (Ct.jW sh (Ct.found sh n 1) e n)) (G F 0) n 0).toArray):=I (by have:=gB.out;rwa [LM,MI]at this |-);clear gB hmk;obtain⟨wo,hwo⟩: ∃ wo:Z,wo=W:=⟨_,rfl⟩;subst hwo;generalize wo.alloc (U (kZ n (G F 0)) 3)=w5 at*;gi_loopw [36] (λt wr=> ∃ e:Nat,e<=n/\t= G F e/\au wr wo.heap.size 3 (upTo (λe=> G F (Ct.jW sh (Ct.found sh n 1) e n)) (G F 0) n e).toArray/\Below wo.heap.size wo wr) (λt _=>n - (intOf t).toNat)
  case atStart=>exact⟨0,lq _,rfl,mK.out,Ud⟩
  case round=>
   clear mK Ud e0;obtain⟨e,hen,rfl,hB,hq⟩:=hrel;have HB:=I hB
   by_cases hel:e<n
   ·have Eg:=I (PH (λe=> G F (Ct.jW sh (Ct.found sh n 1) e n)) (G F 0) n e);have BP:=I (HV.out (q - 1) (T A n c) (Ct.found sh n 1) e wr (qK.step Ja.out hq) hel (by have:=Ct.Gp sh n hn (m - 1);rw[Ct.SF sh n hn m hm1 tK.out];have h16:2 ^ n<=65536:=iT (uA O iF) aJ;omega));have c0:wr.cell? ⟨w2.heap.size,0,J⟩=N (.int .u16 (Ct.found sh n 1:Nat)):=(wZ.out.step hq).cell 0;have c1:wr.cell? ⟨wo.heap.size,e,J⟩=N (G F 0):=by rw[HB.out.cell,yE,PG _ _ _ _ _ hel,bE (Qg _)]
    have c2:=HB.out.frozen e;have OE:(e:Int)<n:=O;have j6:=LH HB.out e (G F (Ct.jW sh (Ct.found sh n 1) e n));rw[Eg.out]at j6;have lZ:=I j6;have Az:Below wo.heap.size wo (wr.setCell ⟨wo.heap.size,e,J⟩ (G F (Ct.jW sh (Ct.found sh n 1) e n))):=hq.setCell (aC _) _;clear j6 hB;gi_wp2_with (gi_at_call 318;refine(BP.out).mono ?_;rintro e2 w6 ⟨rfl,rfl⟩);go_roundw
    case rel=>exact⟨e+1,O,by go_num,lZ.out,Az⟩
    case measure=>simp[intOf];omega
   ·have uQ:e=n:=O;have HR:=I (O1 (base:=w.heap.size) (n:=n) HB.out (by have:=hb2.size;omega) (Vg _ _ _ _) fQ);have HU:Hid (upTo (λe=>G .i64 (Ct.jW sh (Ct.found sh n 1) e n)) (G F 0) n e=intCells (N8 sh n)):=I (by rw[uQ,PE];simp[intCells,N8]);have hq8:=hbw.trans (hq.mono O);clear hB uQ;gi_wp2;have hKr:=(hq.block D (by exact(nM.1 HK.out).1)).trans HK.out;refine⟨by simp,.inl ⟨_,_,rfl,run_takeDeferred hKr,?_⟩⟩;exact⟨_,results_tmp2 rfl _ _ _,_,rfl,ownsRow_putObj (by rw[<- HU.out];exact HR.out) _ hKr rfl,hq8.trans (belowK_b (w:=w) (aC _) wr D _ _ (by have:=hb2.size;omega) hKr rfl rfl)⟩
 case stop=>
  rintro D c pre W _ _ h _;exact h.elim
theorem afJ (n:Nat) (hn:1<=n) (iF:n<=12) (L:List aM) (A:Option aG) (cp:Nat) (day:Int) (w:Z) (hr:Rd w w.heap.size 4 A L.length (cellsOf aM.cells L)) (hw: ∀ r∈L,Wf r.holder/\Wf r.bF/\Wf r.date) (h:aT.valid n L=ae) (hd:Gr.eZ day=ae):
 aF ak 304 #[G F n,T A L.length cp,G F day] w (R4 (λh e=>aT.at_ L (h:Nat) (e:Nat) day) n w):=by
 have hbd: ∀ i e:Nat,i<n->0<=aT.at_ L i e day/\aT.at_ L i e day<=10000:=λi e _=>aT.JE L i e day (Oz (n:=n) (λk hk=>by simp only[aT.valid,bR,dm]at h;exact tO h.2.2.2.1 hk))
 exact(jM (n:=9)).1 (afK lC 9 O trivial trivial trivial trivial trivial rfl n hn iF _ hbd _ day w (jM.2 (ZW n L A cp day w hr hw h hd)) (λp v set e W h1 h2 h3=>jM.2 (Yt v n _ set e W h1 iF h2 h3 hbd)))
end
section
open Go.RowKit Go.Shelf
attribute [local go_sem] Oper.semAt_some
def Ev (x:Nat×Nat) (e:Nat):Bool:=bits .and .u16 ((x.2:Int) / 2 ^ e) 1==1
def rk (pre:List (Nat×Nat)) (e:Nat):Int:=pre.foldl (λr x=>if Ev x e then x.1 else r) (-1)
theorem UX (pre:List (Nat×Nat)) (x:Nat×Nat) (e:Nat):rk (pre++ [x]) e=if Ev x e then (x.1:Int) else rk pre e:=by simp[rk]
theorem am7 {sh:Nat->Nat->Int} {n:Nat} (hn:1<=n) (iF:n<=12) (m e:Nat):(0<=rk (Ct.sets sh n m) e)↔(Ct.union ((Ct.sets sh n m).map (·.2))).testBit e=ae:=by
 have h16:2 ^ n<=65536:=iT (uA O iF) aJ
 induction m with
 |zero=>simp[Ct.sets,rk,Ct.union]
 |succ m ih=>
  have h1:=Ct.SG sh n hn m;rw[Ct.Pw,UX,mJ,VC,Ct.Vf,Nat.testBit_or];have hb:Ev (m,Ct.fr sh n m) e=(Ct.fr sh n m).testBit e:=by
   unfold Ev;rw[U4 _ _ O]
   cases (Ct.fr sh n m).testBit e<;>rfl
  rw[hb]
  cases (Ct.fr sh n m).testBit e
  ·simpa using ih
  ·simp
def sS (pre:List (Nat×Nat)) (x:Nat×Nat) (n k:Nat):List aj:=(kJ n).map λi=> G F (if i<k then rk (pre++ [x]) i else rk pre i)
def uU (pre:List (Nat×Nat)) (n:Nat):List aj:=(kJ n).map λi=> G F (rk pre i)
theorem am6 (pre:List (Nat×Nat)) (x:Nat×Nat) (n:Nat):sS pre x n 0=uU pre n:=by simp[sS,uU]
theorem am2 (pre:List (Nat×Nat)) (x:Nat×Nat) (n:Nat):sS pre x n n=uU (pre++ [x]) n:=by
 unfold sS uU;apply Qf;intro i hi;rw[bB (zD.1 hi)]
theorem am3 (pre:List (Nat×Nat)) (x:Nat×Nat) (n k:Nat) (h:k<n):(sS pre x n k)[k]? =N (G F (rk pre k)):=by simp[sS,h]
theorem am5 (pre:List (Nat×Nat)) (x:Nat×Nat) (n k:Nat) (h:Ev x k=ae):(sS pre x n k).set k (G F x.1)=sS pre x n (k+1):=by
 apply MC
 ·simp[sS]
 ·intro i h1 h2;simp only[sS,Vz,vw,Mh]
  by_cases e:k=i
  ·subst e;simp[UX,h]
  ·rw[bE e];have:(i<k)↔(i<k+1):=O;simp only[this]
theorem am4 (pre:List (Nat×Nat)) (x:Nat×Nat) (n k:Nat) (h:Ev x k=ag):sS pre x n (k+1)=sS pre x n k:=by
 unfold sS;apply Qf;intro i _
 by_cases e:i=k
 ·subst e;simp[UX,h]
 ·have:(i<k+1)↔(i<k):=O;simp only[this]
theorem am1 (n:Nat):(upTo (λ_=>G .i64 (-1)) (G F 0) n n)=uU [] n:=by
 rw[PE];rfl
def RZ (sh:Nat->Nat->Int) (n:Nat) (w:Z) (e:eG) (w':Z):Prop:=
 ∃ (v:aj) (r:Nat->Int),e= .returned (.tuple #[v,G F 0])/\(∀ e,e<n->(0<=r e↔(Ct.found sh n 1).testBit e=ae))/\w'.ownsRow w.heap.size 3 1 v n (intCells ((kJ n).map r))/\Below w.heap.size w w'
theorem afF (bf:Fence) (q:Nat) (hq:5<=q) (Av:bf.fn 315) (hF1:bf.fn 317) (hF2:bf.fn 323) (Kb:bf.fn 318) (SY:bf.fn 316) (hro:bf.round=J) (n:Nat) (hn:1<=n) (iF:n<=12) (sh:Nat->Nat->Int) (hbd: ∀ i e,i<n->0<=sh i e/\sh i e<=10000) (lv:aj) (day:Int) (w:Z)
 (hM:aaM bf (q - 1) ak 316 #[G F n,lv,G F day] w λe w'=> ∃ v,e= .returned (.tuple #[v,G F 0])/\qK w' v n sh/\Below w.heap.size w w')
 (hV: ∀ (p:Nat) (v:aj) (set e:Nat) (W:Z),qK W v n sh->e<n->set<65536->aaM bf p ak 318 #[v,.int .u16 set,G F e] W λee w'=>ee= bM (G F (Ct.jW sh set e n))/\W=w'):
 aaM bf q ak 315 #[G F n,lv,G F day] w (RZ sh n w):=by
 have h1:1<=q:=O;obtain⟨m,hm1,hm2,Ay,KY⟩:=Ct.stops sh n hn;have TY:m<=5000:=iT hm2 (iT (uA O iF) aJ);have HM:=I hM;have HV:=I hV;have DK:=I hbd;have tK:=I Ay;have DZ:=I KY;have HRK:Hid (∀ e,e<n->(0<=rk (Ct.sets sh n m) e↔(Ct.found sh n 1).testBit e=ae)):=I (λe _=>by
  rw[am7 hn iF];obtain⟨j,rfl⟩: ∃ j,m=j+1:=⟨m - 1,O⟩;rw[Ct.Ve,Ct.SF sh n hn (j+1) hm1 Ay,VB])
 have hmk: ∀ X:Z,(Instr.makeSlice 60 (G F n) (G F n)).run ak X= .ok (T (N ⟨X.heap.size,0,J⟩) n n) (X.alloc (U (kZ n (G F 0)) 3)):=λX=>G7 60 3 (G F 0) 8 Bj CY rfl .i64 .i64 n O O X
 clear hM hV hbd hm2 Ay KY;refine callsIn_of_wp_marks Tryz.func315 rfl Av ?_ hro;simp only[Tryz.ntmps315,nk,gX,mI,Nat.reduceAdd,Nat.reduceSub,qy,qz,qA,qB,oU,oV];gi_wp2_with (gi_at_call 316;refine(HM.out).mono ?_;rintro e w2 ⟨v,rfl,EP,hb2⟩;obtain⟨A,c,rfl⟩:=qK.len EP;have Ni:=I EP;clear EP);have hz2:=hb2.size;have hq0:Below w2.heap.size w2 ((w2.alloc (U (kZ n (G F 0)) 3)).alloc (U #[T (N ⟨w2.heap.size,0,J⟩) n n] 60)):=((aD _ _).alloc (aC _) _).alloc aL _;have HB0:Hid (au ((w2.alloc (U (kZ n (G F 0)) 3)).alloc (U #[T (N ⟨w2.heap.size,0,J⟩) n n] 60)) w2.heap.size 3 (upTo (λ_=> G F (-1)) (G F 0) n 0).toArray):=I (by rw[LM,MI];exact(au.new w2 _ _).alloc _);have HX0:=I (eT w2 (U (kZ n (G F 0)) 3) 60 #[T (N ⟨w2.heap.size,0,J⟩) n n]);generalize (w2.alloc (U (kZ n (G F 0)) 3)).alloc (U #[T (N ⟨w2.heap.size,0,J⟩) n n] 60)=w3 at*;clear hmk;gi_loopw [29] (λt wr=> ∃ e:Nat,e<=n/\t= G F e/\au wr w2.heap.size 3 (upTo (λ_=> G F (-1)) (G F 0) n e).toArray/\au wr (w2.heap.size+1) 60 #[T (N ⟨w2.heap.size,0,J⟩) n n]/\Below w2.heap.size w2 wr) (λt _=>n - (intOf t).toNat)
 case atStart=>exact⟨0,lq _,rfl,HB0.out,HX0.out,hq0⟩
 case round=>
  clear HB0 HX0 hq0;obtain⟨e,hen,rfl,hB,hX,hq⟩:=hrel;have HB:=I hB;have HX:=I hX;clear hB hX
  by_cases hel:e<n
  ·have c0:wr.cell? ⟨w2.heap.size+1,0,J⟩=N (T (N ⟨w2.heap.size,0,J⟩) n n):=HX.out.cell 0;have c1:wr.cell? ⟨w2.heap.size,e,J⟩=N (G F 0):=by rw[HB.out.cell,yE,PG _ _ _ _ _ hel,bE (Qg _)]
   have c2:=HB.out.frozen e;have OE:(e:Int)<n:=O;have j6:=LH HB.out e (G F (-1));rw[PH (λ_=> G F (-1)) (G F 0) n e]at j6;have lZ:=I j6;have yT:=I (HX.out.far (p:=⟨w2.heap.size,e,J⟩) (by show w2.heap.size+1≠w2.heap.size;omega) (G F (-1)));have Az:Below w2.heap.size w2 (wr.setCell ⟨w2.heap.size,e,J⟩ (G F (-1))):=hq.setCell (aC _) _;clear j6;gi_wp2;go_roundw
   case rel=>exact⟨e+1,O,by go_num,lZ.out,yT.out,Az⟩
   case measure=>simp[intOf];omega
  ·have uQ:e=n:=O;have sZ:Hid (au wr w2.heap.size 3 (uU [] n).toArray):=I (by rw[<- am1,<- uQ];have:=HB.out;rw[uQ]at this |-;exact this);clear uQ HB;have ZR:=HX.out.lt;gi_wp2_with (gi_at_call 317;refine(ab5 bf (q - 1) hF1 hro _ _ _ _).mono ?_;rintro e w' ⟨rfl,rfl⟩);obtain⟨W0,hW0⟩: ∃ W0,wr.alloc (U #[T A n c] 379)=W0:=⟨_,rfl⟩;have hsz:W0.heap.size=wr.heap.size+1:=by rw[<- hW0];simp
   have hB0:Below w2.heap.size w2 W0:=by rw[<- hW0];exact hq.alloc hq.size _
   have k0:au W0 w2.heap.size 3 (uU [] n).toArray:=by rw[<- hW0];exact sZ.out.alloc _
   have k1:au W0 (w2.heap.size+1) 60 #[T (N ⟨w2.heap.size,0,J⟩) n n]:=by rw[<- hW0];exact HX.out.alloc _
   have k2:au W0 wr.heap.size 379 #[T A n c]:=by rw[<- hW0];exact au.new wr _ _
   rw[hW0];obtain⟨b,hb⟩: ∃ b,b=wr.heap.size:=⟨_,rfl⟩;rw[<- hb]at hsz k2 |-;have hbb:w2.heap.size+1<b:=by rw[hb];exact ZR
   clear hW0 sZ HX hq ZR hb;refine wpIn_rangeFunc_ownH hro h1 (gf:=323) (lb:= #[aN (N ⟨b,0,J⟩)]) rfl hF2 (enters_of Tryz.func323 ai rfl)
    (ab6 bf (q - 1) m O hF2 Kb hro (T A n c) n sh w2.heap.size b W0 (Ni.out.below hB0) O hn iF DK.out tK.out DZ.out TY k2 (λset e W h1 h2 h3=>HV.out _ _ set e W h1 h2 h3)) Lf
    (λW l o o' hl h1 h2 h3=>⟨belowK_b (w:=W0) O W l o o' hl h1 h2 h3,λB _ hB=>World.putObj_heap_other O⟩) (aD _ _) (λ_=>rfl)
    (λ(pre:List (Nat×Nat)) W=>(au W w2.heap.size 3 (uU pre n).toArray/\au W (w2.heap.size+1) 60 #[T (N ⟨w2.heap.size,0,J⟩) n n])/\(au W b 379 #[T A n c]/\Below w2.heap.size w2 W))
    (λ_ _ _=>False)
    (OwnFrom.and (OwnFrom.and (Own.from (Gq _ _ (λ(pre:List (Nat×Nat))=>(uU pre n).toArray)) _) (Own.from (nC _ _ _) _)) (OwnFrom.and (Own.from (nC _ _ _) _) (ownFrom_below (aC _) O)))
    (λ_ _ _ _ _ hs _ _=>hs)
    ⟨⟨k0,k1⟩,k2,hB0⟩
    (λ(x:Nat×Nat) a' W=>a'= { tmps:= #[G F n,lv,G F day,aV,aV,aV,T J 0 0,G F 0,T A n c,G F 0,aN (N ⟨w2.heap.size+1,0,J⟩),u11,G F x.1,.int .u16 x.2,aV,bG #[T A n c,G F 0],G F n,lv,G F day,bG #[T A n c,G F 0],T A n c,G F 0,G F 0,aA ag,aV,G F n,T (N ⟨w2.heap.size,0,J⟩) n n,T (N ⟨w2.heap.size,0,J⟩) n n,G F n,G F e,aA ag,u31,u32,u33,u34,u35,T A n c,.func (.func 323) #[] #[aN (N ⟨b,0,J⟩)],G F x.1,.int .u16 x.2,aV,aV,aV,aV,aV,aV,aV,aV,aV,aV,aV,aV,aV,aV,aV,aV],defers:= [] })
    (λx a' _ X Y row hs hg hr=>hs)
    ?assign ?body ?done ?stop
   case assign=>
    rintro l' pre x W K ⟨⟨i0,i1⟩,i2,hB1⟩ hK;unfold encS;gi_wp2;exact hK _ _ (KeepsFrom.refl _ _) (fI.refl _ _ _ _) ⟨⟨i0,i1⟩,i2,hB1⟩ rfl
   case body=>
    rintro l' pre x a' W hl ⟨r,hr⟩ ⟨⟨i0,i1⟩,i2,hB1⟩ rfl hlt;have HB1:Hid (au W w2.heap.size 3 (sS pre x n 0).toArray):=I (by rw[am6];exact i0);have df:=I i1;have Ld:=hB1.size;have e0:=i1.cell 0;have HI2:=I i2;have DN:=I hB1;clear i0 i1 i2 hB1 hr;gi_wp2;clear e0;gi_loopw [42] (λt wr=> ∃ k:Nat,k<=n/\t= G F k/\au wr w2.heap.size 3 (sS pre x n k).toArray/\au wr (w2.heap.size+1) 60 #[T (N ⟨w2.heap.size,0,J⟩) n n]/\fI w2.heap.size b 1 W wr/\KeepsFrom W0.heap.size W wr) (λt _=>n - (intOf t).toNat)
    case atStart=>exact⟨0,lq _,rfl,HB1.out,df.out,fI.refl _ _ _ _,KeepsFrom.refl _ _⟩
    case round=>
     obtain⟨k,hkn,rfl,hB,hX,Ke,Tg⟩:=hrel;have HB:=I hB;have HX:=I hX;clear hB hX
     by_cases hkl:k<n
     ·have c0:wr.cell? ⟨w2.heap.size+1,0,J⟩=N (T (N ⟨w2.heap.size,0,J⟩) n n):=HX.out.cell 0;have c1:wr.cell? ⟨w2.heap.size,k,J⟩=N (G F (rk pre k)):=by rw[HB.out.cell,yE,am3 _ _ _ _ hkl]
      have c2:=HB.out.frozen k;have hkz:(k:Int)<n:=O;have apR:(k:Int)<=16:=O
      cases hq1:Ev x k
      ·have HN:=I (am4 pre x n k hq1);have hbd:(bits .and .u16 ((x.2:Int) / 2 ^ k) 1==1)=ag:=hq1;have OB: ¬ bits .and .u16 ((x.2:Int) / 2 ^ k) 1=1:=by simpa using hbd
       clear hq1;gi_wp2;go_roundw
       case rel=>exact⟨k+1,O,by go_num,by rw[HN.out];exact HB.out,HX.out,Ke,Tg⟩
       case measure=>simp[intOf];omega
      ·have HN:=I (am5 pre x n k hq1);have hbd:(bits .and .u16 ((x.2:Int) / 2 ^ k) 1==1)=ae:=hq1;have OB:bits .and .u16 ((x.2:Int) / 2 ^ k) 1=1:=by simpa using hbd
       have j6:=LH HB.out k (G F x.1);rw[HN.out]at j6;have lZ:=I j6;have yT:=I (HX.out.far (p:=⟨w2.heap.size,k,J⟩) (by show w2.heap.size+1≠w2.heap.size;omega) (G F x.1));have ahF:=Ke.set (p:=⟨w2.heap.size,k,J⟩) (G F x.1) (aC _) (by show w2.heap.size<b;omega);have ahD:=Tg.trans ((KeepsOthers.setCell wr ⟨w2.heap.size,k,J⟩ (G F x.1)).from W0.heap.size);clear j6 hq1;gi_wp2;go_roundw
       case rel=>exact⟨k+1,O,by go_num,lZ.out,yT.out,ahF,ahD⟩
       case measure=>simp[intOf];omega
     ·have hkn2:k=n:=O;have iM:Hid (au wr w2.heap.size 3 (uU (pre++ [x]) n).toArray):=I (by rw[<- am2];have:=HB.out;rw[hkn2]at this;exact this);clear hkn2 HB;gi_wp2;exact⟨Tg,Ke,⟨iM.out,HX.out⟩,Ke.blk HI2.out (aC _) O,DN.out.trans Ke.1⟩
   case done=>
    rintro D ys W hD rfl ⟨⟨i0,i1⟩,i2,hB1⟩ hK;have e0:=i1.cell 0;have hbw:=hb2.trans (hB1.mono hz2);have HR:=I (O1 (base:=w.heap.size) (n:=n) i0 O (by simp[uU]) fQ);clear i0 i1 i2;gi_wp2;refine⟨by simp,.inl ⟨_,_,rfl,run_takeDeferred hK,?_⟩⟩;exact⟨_,results_tmp2 rfl _ _ _,_,_,rfl,HRK.out,by have h9:=ownsRow_putObj HR.out (Obj.deferred J) hK rfl;rw[show intCells ((kJ n).map (rk (Ct.sets sh n m)))=uU (Ct.sets sh n m) n from by simp[uU,intCells,Function.comp_def]];exact h9,hbw.trans (belowK_b (w:=w) (aC _) W D _ _ O hK rfl rfl)⟩
   case stop=>
    rintro D c pre W _ _ h _;exact h.elim
theorem afD (n:Nat) (hn:1<=n) (iF:n<=12) (L:List aM) (A:Option aG) (cp:Nat) (day:Int) (w:Z) (hr:Rd w w.heap.size 4 A L.length (cellsOf aM.cells L)) (hw: ∀ r∈L,Wf r.holder/\Wf r.bF/\Wf r.date) (h:aT.valid n L=ae) (hd:Gr.eZ day=ae):
 aF ak 315 #[G F n,T A L.length cp,G F day] w (RZ (λh e=>aT.at_ L (h:Nat) (e:Nat) day) n w):=by
 have hbd: ∀ i e:Nat,i<n->0<=aT.at_ L i e day/\aT.at_ L i e day<=10000:=λi e _=>aT.JE L i e day (Oz (n:=n) (λk hk=>by simp only[aT.valid,bR,dm]at h;exact tO h.2.2.2.1 hk))
 exact(jM (n:=9)).1 (afF lC 9 O trivial trivial trivial trivial trivial rfl n hn iF _ hbd _ day w (jM.2 (ZW n L A cp day w hr hw h hd)) (λp v set e W h1 h2 h3=>jM.2 (Yt v n _ set e W h1 iF h2 h3 hbd)))
end
def JH (l:List Bool):List aj:=l.map λb=>aA b
theorem aeV:(ak.info? 4).map (λi=>(i.zero,i.size,i.bytes))=N (N (aA ag),1,1):=ai
def Qn (f:Nat->Bool) (n:Nat) (w:Z) (e:eG) (w':Z):Prop:=
 ∃ v,e= .returned (.tuple #[v,G F 0])/\w'.ownsRow w.heap.size 4 1 v n (JH ((kJ n).map f))/\Below w.heap.size w w'
theorem UR {w:Z} {B:Nat} {A:Option aG} {n:Nat} {f:Nat->Int} (h:Rd w B 1 A n (intCells ((kJ n).map f))) (k:Nat) (hk:k<n): ∃ b o,A=N ⟨b,o,J⟩/\b<B/\w.cell? ⟨b,o+k,J⟩=N (G F (f k)):=by
 obtain⟨b,o,e,hb,hc⟩:=h.2 O;exact⟨b,o,e,hb,hc k _ (by simp[intCells,hk])⟩
theorem amD {w:Z} {B:Nat} {A:Option aG} {n:Nat} {f:Nat->Bool} (h:Rd w B 1 A n (JH ((kJ n).map f))) (k:Nat) (hk:k<n): ∃ b o,A=N ⟨b,o,J⟩/\b<B/\w.cell? ⟨b,o+k,J⟩=N (aA (f k)):=by
 obtain⟨b,o,e,hb,hc⟩:=h.2 O;exact⟨b,o,e,hb,hc k _ (by simp[JH,hk])⟩
theorem ae4 (n:Nat) (hn:1<=n) (iF:n<=12) (L:List aM) (A:Option aG) (cp:Nat) (day:Int) (w:Z) (hr:Rd w w.heap.size 4 A L.length (cellsOf aM.cells L)) (hw: ∀ r∈L,Wf r.holder/\Wf r.bF/\Wf r.date) (h:aT.valid n L=ae) (hd:Gr.eZ day=ae):
 aF ak 303 #[G F n,T A L.length cp,G F day] w (Qn (λe=>(Ct.found (λh e=>aT.at_ L (h:Nat) (e:Nat) day) n 1).testBit e) n w):=by
 have KR:=I (afD n hn iF L A cp day w hr hw h hd);have hmk: ∀ X:Z,(Instr.makeSlice 88 (G F n) (G F n)).run ak X= .ok (T (N ⟨X.heap.size,0,J⟩) n n) (X.alloc (U (kZ n (aA ag)) 4)):=λX=>G7 88 4 (aA ag) 1 Tryz.underlying88 aeV rfl .i64 .i64 n O O X
 clear hr hw h hd;unfold Qn;unfold RZ at KR;generalize Ct.found (λh e=>aT.at_ L (h:Nat) (e:Nat) day) n 1=fo at*;go_enter Tryz.func303,Tryz.ntmps303;go_upto_region 6 with (go_at_call 315;refine(KR.out).mono ?_;rintro e w2 ⟨v,r,rfl,K8,hrow,hb2⟩;obtain⟨A2,c2,rfl,hrd⟩:=Rd.dE hrow;have zX:=I K8;have oI:=I hrd;clear K8 hrow hrd)
 have hz2:=hb2.size;have hq0:Below w2.heap.size w2 (w2.alloc (U (kZ n (aA ag)) 4)):=(aD _ _).alloc (aC _) _;have HB0:Hid (au (w2.alloc (U (kZ n (aA ag)) 4)) w2.heap.size 4 (upTo (λe=> aA (decide (0<=r e))) (aA ag) n 0).toArray):=I (by rw[LM,MI];exact au.new w2 _ _);clear hmk KR;generalize w2.alloc (U (kZ n (aA ag)) 4)=w3 at*;go_loopw [27] (λt wr=> ∃ e:Nat,e<=n/\t= G F e/\au wr w2.heap.size 4 (upTo (λe=> aA (decide (0<=r e))) (aA ag) n e).toArray/\Below w2.heap.size w2 wr) (λt _=>n - (intOf t).toNat)
 case atStart=>exact⟨0,lq _,rfl,HB0.out,hq0⟩
 case round=>
  clear HB0 hq0;obtain⟨e,hen,rfl,hB,hq⟩:=hrel;have HB:=I hB;clear hB
  by_cases hel:e<n
  ·obtain⟨b,o,e3,hb3,hc⟩:=UR (Rd.now oI.out hq) e hel;subst e3;have Eg:=I (PH (λe=>aA (decide (0<=r e))) (aA ag) n e);have c1:wr.cell? ⟨w2.heap.size,e,J⟩=N (aA ag):=by rw[HB.out.cell,yE,PG _ _ _ _ _ hel,bE (Qg _)]
   have c2:=HB.out.frozen e;have OE:(e:Int)<n:=O;have j6:=LH HB.out e (aA (decide (0<=r e)));rw[Eg.out]at j6;have lZ:=I j6;have Az:Below w2.heap.size w2 (wr.setCell ⟨w2.heap.size,e,J⟩ (aA (decide (0<=r e)))):=hq.setCell (aC _) _;clear j6 Eg;generalize r e=x at*;go_wp2_with fail;go_roundw
   case rel=>exact⟨e+1,O,by go_num,lZ.out,Az⟩
   case measure=>simp[intOf];omega
  ·have uQ:e=n:=O;have HR:=I (O1 (base:=w.heap.size) (n:=n) HB.out O (Vg _ _ _ _) fQ);have HU:Hid (upTo (λe=>aA (decide (0<=r e))) (aA ag) n e=JH ((kJ n).map λe=>fo.testBit e)):=I (by
    rw[uQ,PE];simp only[JH,Iu];apply Qf;intro i hi;have:=zX.out i (zD.1 hi);simp only[Function.comp]
    congr 1
    rw[qm,dm];exact this)
   have hq8:=hb2.trans (hq.mono hz2);clear uQ;go_wp2_with fail;go_ret2;exact⟨_,rfl,by rw[<- HU.out];exact HR.out,hq8⟩
def Db (L:List aM) (el:List aY) (day:Int) (e:Nat):Int:=Ct.method (λh e=>aT.at_ L (h:Nat) (e:Nat) day) el.length ((el.map aY.joint).getD e ag) e
def RB (f:Nat->Int) (n:Nat) (w:Z) (e:eG) (w':Z):Prop:=
 ∃ v,e= .returned (.tuple #[v,G F 0])/\w'.ownsRow w.heap.size 3 1 v n (intCells ((kJ n).map f))/\Below w.heap.size w w'
section
variable (aB:Array aj) (cur:ByteArray) (y m p:Int) (cl:List Acc) (cA:Option aG) (cc:Nat) (ro:dZ) (el:List aY) (eA:Option aG) (ec:Nat) (w:Z)
theorem akb (HG:Hid (aB= #[av cur,G F y,G F m,G F p,T cA cl.length cc,G F ro.dU,G F ro.dR,G F ro.dO,G F ro.inventory,G F ro.reserve,G F ro.dV,G F ro.dJ,G F ro.acquired,G F ro.dX,G F ro.dP,G F ro.dN,G F ro.dQ,G F ro.dW,G F ro.difference,G F ro.dL,T eA el.length ec])) (hg:eB w cl cA el eA) (hn:1<=el.length) (iF:el.length<=12) (L:List aM) (A:Option aG) (cp:Nat) (day:Int) (hr:Rd w w.heap.size 4 A L.length (cellsOf aM.cells L)) (hw: ∀ r∈L,Wf r.holder/\Wf r.bF/\Wf r.date) (h:aT.valid el.length L=ae) (hd:Gr.eZ day=ae):
 aF ak 294 #[az aB,T A L.length cp,G F day] w (RB (Db L el day) el.length w):=by
 have H:=I hg;have HR:=I hr;have KC:=I (λW hr=>ae4 el.length hn iF L A cp day W hr hw h hd);have KV:=I (λW hr=>afJ el.length hn iF L A cp day W hr hw h hd);have HM:Hid (∀ e,Db L el day e=if (Ct.found (λh e=>aT.at_ L (h:Nat) (e:Nat) day) el.length 1).testBit e then 3 else if Ct.jW (λh e=>aT.at_ L (h:Nat) (e:Nat) day) (Ct.found (λh e=>aT.at_ L (h:Nat) (e:Nat) day) el.length 1) e el.length<2000 then 0 else if (el.map aY.joint).getD e ag then 2 else 1):=I (λ_=>rfl);have hmk: ∀ X:Z,(Instr.makeSlice 60 (G F el.length) (G F el.length)).run ak X= .ok (T (N ⟨X.heap.size,0,J⟩) el.length el.length) (X.alloc (U (kZ el.length (G F 0)) 3)):=λX=>G7 60 3 (G F 0) 8 Bj CY rfl .i64 .i64 el.length O O X
 have hb:Below w.heap.size w (w.alloc (U aB 29)):=(aD _ _).alloc (aC _) _;have HB:=I (au.new w 29 aB);clear hg hr hw h hd;unfold RB;unfold Qn at KC;unfold R4 N8 at KV;generalize Db L el day=mt at*;generalize (Ct.found (λh e=>aT.at_ L (h:Nat) (e:Nat) day) el.length 1)=fo at*;obtain⟨vo,Z9⟩: ∃ vo:Nat->Int,∀ e,Ct.jW (λh e=>aT.at_ L (h:Nat) (e:Nat) day) fo e el.length=vo e:=⟨_,λ_=>rfl⟩;simp only[Z9]at KV HM;clear Z9;obtain⟨jo,hjo⟩: ∃ jo:Nat->Bool,∀ e,(el.map aY.joint).getD e ag=jo e:=⟨_,λ_=>rfl⟩;have HJO:=I hjo;simp only[hjo]at HM;clear hjo;go_enter Tryz.func294,Tryz.ntmps294;go_upto_region 1 with fail
 generalize w.alloc (U aB 29)=w1 at*;have e20:w1.cell? ⟨w.heap.size,20,J⟩=N (T eA el.length ec):=(HB.out.cell 20).trans aQ;go_upto_region 10 with (first
  |(go_at_call 303;refine(KC.out _ (Rd.now HR.out hb)).mono ?_;rintro e w2 ⟨v2,rfl,hr2,ah⟩;have hb2:=ay hb ah;obtain⟨A2,c2,rfl,hd2⟩:=Rd.dE hr2;have H2:=I hd2;have HB2:=I (HB.out.step ah);clear hr2 hd2 ah)
  |(go_at_call 304;refine(KV.out _ (Rd.now HR.out hb2)).mono ?_;rintro e w3 ⟨v3,rfl,hr3,ah⟩;have hb3:=ay hb2 ah;obtain⟨A3,c3,rfl,hd3⟩:=Rd.dE hr3;have H3:=I hd3;have Br:=I (Rd.now H2.out ah);have HB3:=I (HB2.out.step ah);clear hr3 hd3 ah))
 have hz3:=hb3.size;have hq0:Below w3.heap.size w3 (w3.alloc (U (kZ el.length (G F 0)) 3)):=(aD _ _).alloc (aC _) _;have HB0:Hid (au (w3.alloc (U (kZ el.length (G F 0)) 3)) w3.heap.size 3 (upTo (λe=> G F (mt e)) (G F 0) el.length 0).toArray):=I (by rw[LM,MI];exact au.new w3 _ _);clear hmk KC KV e20 hb hb2 HB HB2 H2;generalize w3.alloc (U (kZ el.length (G F 0)) 3)=w4 at*;go_loopw [41] (λt wr=> ∃ e:Nat,e<=el.length/\t= G F e/\au wr w3.heap.size 3 (upTo (λe=> G F (mt e)) (G F 0) el.length e).toArray/\Below w3.heap.size w3 wr) (λt _=>el.length - (intOf t).toNat)
 case atStart=>exact⟨0,lq _,rfl,HB0.out,hq0⟩
 case round=>
  clear HB0 hq0;obtain⟨e,hen,rfl,hB,hq⟩:=hrel;have wZ:=I hB;clear hB
  by_cases hel:e<el.length
  ·obtain⟨b,o,e3,aX,hc⟩:=amD (Rd.now Br.out hq) e hel;obtain⟨b2,o2,e4,qR,hc2⟩:=UR (Rd.now H3.out hq) e hel;have hgi:=H.out.step (ay hb3 hq);obtain⟨b5,o5,e5,Tx,k0,k1,k2,k3,k4⟩:=aY.at_ hgi.en hel;have DL:=I (HB3.out.step hq);have g20:wr.cell? ⟨w.heap.size,20,J⟩=N (T eA el.length ec):=(DL.out.cell 20).trans aQ;subst e3 e4 e5;have hj:=HJO.out e;have sG:el[e].joint=jo e:=by rw[<- hj];simp[List.getD,hel]
   rw[sG]at k4;have uC:=I (HM.out e);have Eg:=I (PH (λe=>G .i64 (mt e)) (G F 0) el.length e);have c1:wr.cell? ⟨w3.heap.size,e,J⟩=N (G F 0):=by rw[wZ.out.cell,yE,PG _ _ _ _ _ hel,bE (Qg _)]
   have c2:=wZ.out.frozen e;have OE:(e:Int)<el.length:=O;have j6:=LH wZ.out e (G F (mt e));rw[Eg.out]at j6;have lZ:=I j6;have BJ:Hid (Below w3.heap.size w3 (wr.setCell ⟨w3.heap.size,e,J⟩ (G F (mt e)))):=I (hq.setCell (aC _) _);clear j6 Eg hgi k0 k1 k2 k3 hj sG;generalize mt e=me at*;generalize vo e=ve at*;generalize jo e=je at*
   cases hf:fo.testBit e
   ·rw[hf]at hc uC;simp only[zI,zJ]at uC
    by_cases hv:ve<2000
    ·rw[bB hv]at uC;have hme:me=0:=uC.out;subst hme;clear hf;go_wp2_with fail;go_roundw
     case rel=>exact⟨e+1,O,by go_num,lZ.out,BJ.out⟩
     case measure=>simp[intOf];omega
    ·rw[bE hv]at uC
     cases je
     ·have hme:me=1:=uC.out;subst hme;clear hf;go_wp2_with fail;go_roundw
      case rel=>exact⟨e+1,O,by go_num,lZ.out,BJ.out⟩
      case measure=>simp[intOf];omega
     ·have hme:me=2:=uC.out;subst hme;clear hf;go_wp2_with fail;go_roundw
      case rel=>exact⟨e+1,O,by go_num,lZ.out,BJ.out⟩
      case measure=>simp[intOf];omega
   ·rw[hf]at hc uC;have hme:me=3:=uC.out;subst hme;clear hf;go_wp2_with fail;go_roundw
    case rel=>exact⟨e+1,O,by go_num,lZ.out,BJ.out⟩
    case measure=>simp[intOf];omega
  ·have uQ:e=el.length:=O;have HRR:=I (O1 (base:=w.heap.size) (n:=el.length) wZ.out O (Vg _ _ _ _) fQ);have HU:Hid (upTo (λe=>G .i64 (mt e)) (G F 0) el.length e=intCells ((kJ el.length).map mt)):=I (by
    rw[uQ,PE];simp[intCells,Function.comp_def])
   have hq8:=hb3.trans (hq.mono hz3);clear uQ;go_wp2_with fail;go_ret2;exact⟨_,rfl,by rw[<- HU.out];exact HRR.out,hq8⟩
theorem akh (HG:Hid (aB= #[av cur,G F y,G F m,G F p,T cA cl.length cc,G F ro.dU,G F ro.dR,G F ro.dO,G F ro.inventory,G F ro.reserve,G F ro.dV,G F ro.dJ,G F ro.acquired,G F ro.dX,G F ro.dP,G F ro.dN,G F ro.dQ,G F ro.dW,G F ro.difference,G F ro.dL,T eA el.length ec])) (hg:eB w cl cA el eA) (iF:el.length<=12) (L:List aM) (A:Option aG) (cp:Nat) (e:Nat) (he:e<el.length) (day:Int) (hr:Rd w w.heap.size 4 A L.length (cellsOf aM.cells L)) (hw: ∀ r∈L,Wf r.holder/\Wf r.bF/\Wf r.date) (h:aT.valid el.length L=ae) (hd:Gr.eZ day=ae):
 aF ak 268 #[az aB,T A L.length cp,G F e,G F day] w λen w'=>en= .returned (bG #[G F (Db L el day e),G F 0])/\Below w.heap.size w w':=by
 have H:=I hg;have HR:=I hr;have KA:=I (λW (hg:eB W cl cA el eA) hr=>akb aB cur y m p cl cA cc ro el eA ec W HG hg O iF L A cp day hr hw h hd);have hgi:(ak.info? 29).map (·.size)=N aB.size:=by rw[HG.out];exact gy
 have hb:Below w.heap.size w (w.alloc (U aB 29)):=(aD _ _).alloc (aC _) _;have HB:=I (au.new w 29 aB);clear hg hr hw h hd;unfold RB at KA;generalize Db L el day=mt at*;go_enter Tryz.func268,Tryz.ntmps268;go_upto_region 1 with fail
 generalize w.alloc (U aB 29)=w1 at*;go_upto_region 4 with (first
  |(refine cZ 29 (.tmp 4) rfl (w.heap.size) rfl ai (HB).out bQ hgi ?_)
  |(go_at_call 294;refine(KA.out _ (H.out.step hb) (Rd.now HR.out hb)).mono ?_;rintro en w2 ⟨v2,rfl,hr2,ah⟩;have hb2:=ay hb ah;obtain⟨A2,c2,rfl,hd2⟩:=Rd.dE hr2;clear hr2 ah))
 obtain⟨b,o,e3,aX,hc⟩:=UR hd2 e he;subst e3;have OE:(e:Int)<el.length:=O;clear hd2 KA;go_wp2_with fail;go_ret2;exact⟨by simp,hb2⟩
end
section
open Go.RowKit Go.Shelf
attribute [local go_sem] Oper.semAt_some
def Ob (x:Int):Array aj:= #[G F x]
theorem qO (bf:Fence) (n:Nat) (hF:bf.fn 267) (hro:bf.round=J) (A:Option aG) (m c:Nat) (w:Z):
 aaM bf n ak 267 #[T A m c] w λee w'=>ee= bM (.func (.func 293) #[] #[aN (N ⟨w.heap.size,0,J⟩)])/\w'=w.alloc (U #[T A m c] 32):=by
 refine Bl Tryz.func267 rfl hF ?_ hro;simp only[Tryz.ntmps267,nk,gX,mI,Nat.reduceAdd,Nat.reduceSub,qy,qz,qA,qB,oU,oV];gi_wp2;go_ret;exact⟨rfl,rfl⟩
def late (d:Int):Bool:=decide (-25567<d)
def qP (ss:List Int) (k:Nat):List Int:= -25567::(ss.take k).filter late
theorem agi (ss:List Int) (k:Nat) (hk:k<ss.length) (h:late ss[k]=ae):qP ss (k+1)=qP ss k++ [ss[k]]:=by
 unfold qP;rw[gY hk,zH];simp[h]
theorem agf (ss:List Int) (k:Nat) (hk:k<ss.length) (h:late ss[k]=ag):qP ss (k+1)=qP ss k:=by
 unfold qP;rw[gY hk,zH];simp[h]
theorem age (ss:List Int) (k:Nat) (hk:k<ss.length) (h:late ss[k]=ae):(qP ss k).length<(qP ss ss.length).length:=by
 have e:ss.filter late=(ss.take k).filter late++(ss.drop k).filter late:=by rw[<- zH,Ml]
 unfold qP;rw[FC,e,gX,gX,fK];have:ss[k]∈(ss.drop k).filter late:=vF.2 ⟨by rw[iK];exact⟨0,by rw[Vw];omega,aL⟩,h⟩;have:=PS this;omega
theorem agh (ss:List Int) (k:Nat): ∀ x∈qP ss k,x∈qP ss ss.length:=by
 intro x hx;unfold qP at hx |-;rw[FC]
 rcases fT.1 hx with h|h
 ·exact fT.2 (.inl h)
 ·have h1:=vF.1 h;exact fT.2 (.inr (vF.2 ⟨FQ h1.1,h1.2⟩))
def iV (s b:Nat) (W W':Z):Prop:=fI s b 1 W W'/\ ∀ B cs fz,b<=B->W.heap[B]? =N (.cells cs 3 fz)->W'.heap[B]? =W.heap[B]?
theorem iV.refl (s b:Nat) (W:Z):iV s b W W:=⟨fI.refl _ _ _ _,λ_ _ _ _ _=>rfl⟩
theorem iV.trans {s b:Nat} {A W C:Z} (h:iV s b A W) (g:iV s b W C):iV s b A C:=⟨h.1.trans g.1,λB cs fz h1 h2=>by
 have h3:=h.2 B cs fz h1 h2;exact(g.2 B cs fz h1 (h3.trans h2)).trans h3⟩
theorem ajr {s b:Nat}: ∀ {A W C:Z},iV s b A W->iV s b W C->iV s b A C:=λh g=>h.trans g
theorem iV.of_below {s b:Nat} {W W':Z} (hb:Below W.heap.size W W') (hs:s<=W.heap.size) (hbl:b<W.heap.size):iV s b W W':=
 ⟨⟨hb.mono hs,λB _ h2=>hb.block B O⟩,λB cs fz _ h2=>hb.block B (nM.1 h2).1⟩
theorem iV.set {s b:Nat} {A W:Z} (h:iV s b A W) (p:aG) (v:aj) (h1:s<=p.block) (h2:p.block<b):iV s b A (W.setCell p v):=
 h.trans ⟨(fI.refl _ _ _ _).set p v h1 h2,λB cs fz hb _=>uZ W p v B O⟩
theorem iV.Df {s b:Nat} {W W':Z} {row:Option Nat} (hg:W.grownBy W' row) (hs:s<=W.heap.size) (hbl:b<W.heap.size) (hr: ∀ g,row=N g->s<=g/\g≠b/\ ∀ cs fz,W.heap[g]? ≠N (.cells cs 3 fz)):iV s b W W':=by
 have hb: ∀ k,k<W.heap.size->(∀ g,row=N g->k≠g)->W'.heap[k]? =W.heap[k]? :=λk hk h=>hg.block k hk (λe=>h k e.symm rfl)
 refine⟨⟨(aD s W).grown hg hs (λk e=>(hr k e).1),λB h1 h2=>hb B O λg e=> ?_⟩,λB cs fz _ h2=>hb B (nM.1 h2).1 λg e=> ?_⟩
 ·have:=(hr g e).2.1;omega
 ·rintro rfl;exact(hr B e).2.2 cs fz h2
theorem ajq {s b:Nat} {W:Z} {l:Nat} {o o':Obj} (hs:s<=l) (hb:b<l) (h:W.heap[l]? =N o) (ho:o.isCells=ag) (hw:o.isWalk=ag):iV s b W (W.putObj l o'):=
 ⟨⟨(aD s W).grown (grownBy_putObj' W l o') (by have:=(nM.1 h).1;omega) (λk e=>by cases e;omega),λB _ hB=>World.putObj_heap_other O⟩,λB cs fz _ h2=>World.putObj_heap_other (by rintro rfl;rw[h]at h2;cases h2;cases ho)⟩
theorem afP (bf:Fence) (q:Nat) (hq:3<=q) (Ta:bf.fn 293) (hfn:bf.fn 126) (hro:bf.round=J) (L:List aM) (A:Option aG) (cp:Nat) (s b:Nat) (w:Z) (hr:Rd w s 4 A L.length (cellsOf aM.cells L)) (hs:s<=w.heap.size)
 (hsb:s<=b) (b0:au w b 32 #[T A L.length cp])
 (hD: ∀ (W:Z),Rd W W.heap.size 4 A L.length (cellsOf aM.cells L)->aaM bf (q - 1) ak 126 #[T A L.length cp] W (NL 3 (L.map aM.date) W)):
 SeqStopsK bf q ak 293 #[aN (N ⟨b,0,J⟩)] Ob (iV s b) (λys=>ys=Sc.days (-25567) L) (λpre=> ∀ x∈pre,x∈Sc.days (-25567) L) (Sc.days (-25567) L).length w:=λl' fF Jx W hW hJ hJx hY h0=>by
 have HR:Hid (Rd W s 4 A L.length (cellsOf aM.cells L)):=I (hr.below (hW.mono hs) (aC _));have HB0:Hid (au W b 32 #[T A L.length cp]):=I (b0.below hW b0.lt);have OJ:s<=W.heap.size:=iT hs hW.size;have HJ:Hid (∀ s A C,fF s A->A.heap.size<=C.heap.size->Below A.heap.size A C->fF s C):=I λs A C hs _ hb=>by
  have:=hJ s A C J hs (sF hb J) (λr e=>by cases e);exact this
 have HY:=I hY;have HD:=I hD;have hbW:=HB0.out.lt;have h1:1<=q:=O;clear hr b0 hW hJ hJx hY hD;refine Bl Tryz.func293 rfl Ta ?_ hro;simp only[Tryz.ntmps293,nk,gX,mI,Nat.reduceAdd,Nat.reduceSub,qy,qz,qA,qB,oU,oV];have uP:=HY.out [] (-25567) W h0 (by simp[Sc.days]);unfold Ob at uP;obtain⟨fn,tmps,assign,body,hy,hR⟩:=uP;clear h0;gi_wp2;refine hR.mono ?_;rintro ee W3 (⟨rfl,hJ3,hk3⟩|⟨rfl,hJx3⟩)
 ·have xA:=I hJ3;clear hJ3 hR hy;have e1:W3.cell? ⟨b,0,J⟩=N (T A L.length cp):=(hk3.1.blk HB0.out (aC _) O).cell 0;have hz3:=hk3.1.1.size;have KD:=I (HD.out W3 ((HR.out.below hk3.1.1 (aC _)).more O));gi_wp2_with (gi_at_call 126;refine(KD.out).mono ?_;rintro e w4 ⟨v4,ss,rfl,h5,h6,h7,ah⟩;obtain⟨A4,c4,rfl,hrd⟩:=Rd.dE h7;have HD4:=I h7;have aR:=I (Sc.XV h5 (Sc.aeu (L.map aM.date)) (λx=>by rw[h6,Sc.aaI]));have hsl:ss.length<=bK:=(by rcases h7.2 with ⟨_,h0⟩|⟨_,_,_,_,_,_,h8,h9,_⟩<;>omega);unfold bK at hsl;clear h5 h6 h7 hrd);have hk4:iV s b W w4:=hk3.trans (iV.of_below ah O (hk3.1.blk HB0.out (aC _) O).lt);have xB:=I (HJ.out _ _ _ xA.out ah.size ah);have QB:Hid (qP ss ss.length=Sc.days (-25567) L):=I (by rw[aR.out];unfold qP Sc.days;rw[FC];rfl);clear e1 KD hk3 xA aR ah;gi_loopw [11] (λt wr=> ∃ k:Nat,k<=ss.length/\t= G F k/\fF (qP ss k) wr/\iV s b W wr/\wr.ownsRow W3.heap.size 3 1 (T A4 ss.length c4) ss.length (intCells ss)) (λt _=>ss.length - (intOf t).toNat)
  case atStart=>exact⟨0,lq _,rfl,xB.out,hk4,HD4.out⟩
  case round=>
   clear xB HD4 hk4;obtain⟨k,hk,rfl,hJs,hK,hO⟩:=hrel;have apE:b<=W3.heap.size:=by have:=hz3;omega
   by_cases hlt:k<ss.length
   ·obtain⟨A5,c5,e5,hrd⟩:=Rd.dE hO;injection e5 with e5 _ e7
    subst e5 e7;obtain⟨bb,o,e6,aX,hc⟩:=hrd.2 O;have hc0:=hc k (G F ss[k]) (by simp[intCells,hlt]);subst e6;have HOW:=I hO;clear hc hrd hO;have hd5:late ss[k]=decide (-25567<ss[k]):=rfl
    cases hl:late ss[k]
    ·have HT:=I (agf ss k hlt hl);rw[hl]at hd5;have hd6:decide (-25567<ss[k])=ag:=hd5.symm;have hd7: ¬ (-25567<ss[k]):=by simpa using hd6
     have xC:=I hJs;clear hJs hd5 hl;generalize ss[k]=x at*;gi_wp2;refine⟨λ_ h=>(by cases h),?_⟩;gi_wp2;go_roundw
     case rel=>exact⟨k+1,O,by go_num,by rw[HT.out];exact xC.out,hK,HOW.out⟩
     case measure=>simp[intOf];omega
    ·have HT:=I (agi ss k hlt hl);have hll:=age ss k hlt hl;rw[QB.out]at hll;rw[hl]at hd5;have hd6:decide (-25567<ss[k])=ae:=hd5.symm;have hd7: -25567<ss[k]:=by simpa using hd6
     have uP:=HY.out (qP ss k) ss[k] wr hJs hll;unfold Ob at uP;obtain⟨fn,tmps,assign,body,hy,hR⟩:=uP;clear hJs hd5 hl hll;generalize ss[k]=x at*;gi_wp2;refine hR.mono ?_;rintro ee W5 (⟨rfl,Kc,hk5⟩|⟨rfl,Td⟩)
     ·have HJ5:=I Kc;have Ki:W5.ownsRow W3.heap.size 3 1 (T (N ⟨bb,o,J⟩) ss.length c4) ss.length (intCells ss):=by
       refine⟨HOW.out.1,HOW.out.2.imp id λ⟨g,cap,cur,h1,h2,h3,h4⟩=>⟨g,cap,cur,h1,h2,(hk5.2 g cur (0,0) O h3).trans h3,h4⟩⟩
      have mO:=I Ki;have zk:=hK.trans hk5;clear Kc Ki hR hy;gi_wp2;go_roundw
      case rel=>exact⟨k+1,O,by go_num,by rw[HT.out];exact HJ5.out,zk,mO.out⟩
      case measure=>simp[intOf];omega
     ·gi_wp2;refine iq (Il rfl _ _ _) rfl ?_;exact⟨⟨_,rfl⟩,.inr ⟨_,by rw[<- HT.out,<- QB.out];exact agh ss (k+1),Td⟩⟩
   ·have HE:Hid (k=ss.length):=I O;have xC:=I hJs;clear hJs hO;gi_wp2;go_end0;exact⟨⟨_,rfl⟩,.inl ⟨_,rfl,by rw[<- QB.out,<- HE.out];exact xC.out⟩⟩
 ·gi_wp2;refine iq (Il rfl _ _ _) rfl ?_;exact⟨⟨_,rfl⟩,.inr ⟨_,by intro x hx;simp only[oU,iJ]at hx;subst hx;simp[Sc.days],hJx3⟩⟩
end
section
open Go.RowKit Go.Shelf
attribute [local go_sem] Oper.semAt_some
def IG (w:Z) (e:eG) (w':Z):Prop:=e= .returned (bG #[T J 0 0,G F 2])/\Below w.heap.size w w'
section
variable (L:List aM) (A:Option aG) (cp:Nat) (day:Int)
theorem aip (n:Nat) (w:Z) (hr:Rd w w.heap.size 4 A L.length (cellsOf aM.cells L)) (hw: ∀ r∈L,Wf r.holder/\Wf r.bF/\Wf r.date) (h:aT.valid n L=ae) (hd:Gr.eZ day=ag):
 aF ak 316 #[G F n,T A L.length cp,G F day] w (IG w):=by
 have HR:=I hr;have KV:=I (λW hr=>OL n L A cp W hr hw h);have KD:Hid (∀ W:Z,aF ak 84 #[G F day] W λe w'=>e= bM (aA (Gr.eZ day))/\W=w'):=I (λW=>Cm day W);rw[hd]at KD;have hb:=aD w.heap.size w;clear hr hw h hd;go_enter Tryz.func316,Tryz.ntmps316;go_wp2_with (first
  |(go_at_call 77;refine(KV.out _ (Rd.now HR.out hb)).mono ?_;rintro e w2 ⟨rfl,ah⟩;have hb2:=ay hb ah;clear ah)
  |(go_at_call 84;refine(KD.out _).mono ?_;rintro e w3 ⟨rfl,rfl⟩))
 go_ret2;exact⟨rfl,hb2⟩
theorem afE (bf:Fence) (q:Nat) (hq:1<=q) (Av:bf.fn 315) (SY:bf.fn 316) (hro:bf.round=J) (n:Nat) (lv:aj) (w:Z) (hM:aaM bf (q - 1) ak 316 #[G F n,lv,G F day] w (IG w)):
 aaM bf q ak 315 #[G F n,lv,G F day] w (IG w):=by
 have HM:=I hM;clear hM;refine callsIn_of_wp_marks Tryz.func315 rfl Av ?_ hro;simp only[Tryz.ntmps315,nk,gX,mI,Nat.reduceAdd,Nat.reduceSub,qy,qz,qA,qB,oU,oV];gi_wp2_with (gi_at_call 316;refine(HM.out).mono ?_;rintro e w2 ⟨rfl,hb2⟩);exact⟨_,results_tmp2 rfl _ _ _,rfl,hb2⟩
theorem ae5 (n:Nat) (w:Z) (hr:Rd w w.heap.size 4 A L.length (cellsOf aM.cells L)) (hw: ∀ r∈L,Wf r.holder/\Wf r.bF/\Wf r.date) (h:aT.valid n L=ae) (hd:Gr.eZ day=ag):
 aF ak 303 #[G F n,T A L.length cp,G F day] w (IG w):=by
 have KR:=I ((jM (n:=9)).1 (afE day lC 9 O trivial trivial rfl n _ w (jM.2 (aip L A cp day n w hr hw h hd))));clear hr hw h hd;go_enter Tryz.func303,Tryz.ntmps303;go_wp2_with (go_at_call 315;refine(KR.out).mono ?_;rintro e w2 ⟨rfl,hb2⟩);go_ret2;exact⟨rfl,hb2⟩
variable (aB:Array aj) (cur:ByteArray) (y m p:Int) (cl:List Acc) (cA:Option aG) (cc:Nat) (ro:dZ) (el:List aY) (eA:Option aG) (ec:Nat) (w:Z)
theorem akc (HG:Hid (aB= #[av cur,G F y,G F m,G F p,T cA cl.length cc,G F ro.dU,G F ro.dR,G F ro.dO,G F ro.inventory,G F ro.reserve,G F ro.dV,G F ro.dJ,G F ro.acquired,G F ro.dX,G F ro.dP,G F ro.dN,G F ro.dQ,G F ro.dW,G F ro.difference,G F ro.dL,T eA el.length ec])) (iF:el.length<=12) (hr:Rd w w.heap.size 4 A L.length (cellsOf aM.cells L)) (hw: ∀ r∈L,Wf r.holder/\Wf r.bF/\Wf r.date) (h:aT.valid el.length L=ae) (hd:Gr.eZ day=ag):
 aF ak 294 #[az aB,T A L.length cp,G F day] w (IG w):=by
 have HR:=I hr;have KC:=I (λW hr=>ae5 L A cp day el.length W hr hw h hd);have hb:Below w.heap.size w (w.alloc (U aB 29)):=(aD _ _).alloc (aC _) _;have HB:=I (au.new w 29 aB);clear hr hw h hd;go_enter Tryz.func294,Tryz.ntmps294;go_upto_region 1 with fail
 generalize w.alloc (U aB 29)=w1 at*;have e20:w1.cell? ⟨w.heap.size,20,J⟩=N (T eA el.length ec):=(HB.out.cell 20).trans aQ;go_wp2_with (go_at_call 303;refine(KC.out _ (Rd.now HR.out hb)).mono ?_;rintro e w2 ⟨rfl,ah⟩;have hb2:=ay hb ah);go_ret2;exact⟨rfl,hb2⟩
theorem aki (HG:Hid (aB= #[av cur,G F y,G F m,G F p,T cA cl.length cc,G F ro.dU,G F ro.dR,G F ro.dO,G F ro.inventory,G F ro.reserve,G F ro.dV,G F ro.dJ,G F ro.acquired,G F ro.dX,G F ro.dP,G F ro.dN,G F ro.dQ,G F ro.dW,G F ro.difference,G F ro.dL,T eA el.length ec])) (iF:el.length<=12) (e:Nat) (hr:Rd w w.heap.size 4 A L.length (cellsOf aM.cells L)) (hw: ∀ r∈L,Wf r.holder/\Wf r.bF/\Wf r.date) (h:aT.valid el.length L=ae) (hd:Gr.eZ day=ag):
 aF ak 268 #[az aB,T A L.length cp,G F e,G F day] w λen w'=>en= .returned (bG #[G F 0,G F 2])/\Below w.heap.size w w':=by
 have HR:=I hr;have KA:=I (λW hr=>akc L A cp day aB cur y m p cl cA cc ro el eA ec W HG iF hr hw h hd);have hgi:(ak.info? 29).map (·.size)=N aB.size:=by rw[HG.out];exact gy
 have hb:Below w.heap.size w (w.alloc (U aB 29)):=(aD _ _).alloc (aC _) _;have HB:=I (au.new w 29 aB);clear hr hw h hd;go_enter Tryz.func268,Tryz.ntmps268;go_upto_region 1 with fail
 generalize w.alloc (U aB 29)=w1 at*;go_wp2_with (first
  |(refine cZ 29 (.tmp 4) rfl (w.heap.size) rfl ai (HB).out bQ hgi ?_)
  |(go_at_call 294;refine(KA.out _ (Rd.now HR.out hb)).mono ?_;rintro en w2 ⟨rfl,ah⟩;have hb2:=ay hb ah))
 go_ret2;exact⟨rfl,hb2⟩
end
end
section
open Go.RowKit Go.Shelf
attribute [local go_sem] Oper.semAt_some
theorem ai5 (di:List fE) (i:Nat) (hi:i<di.length) (d:Int):(cellsOf fE.cells di).set (i*3+1) (G F d)=cellsOf fE.cells (di.set i ⟨di[i].from_,d,di[i].method⟩):=by
 induction di generalizing i with
 |nil=>simp at hi
 |cons x di ih=>
  cases i with
  |zero=>simp[cellsOf,fE.cells]
  |succ i=>
   have e:(i+1)*3+1=(i*3+1)+3:=O;simp only[Zs,Bh];have h:=ih i (by simpa using hi);simp only[cellsOf]at h |-;rw[<- h,e];simp[fE.cells]
theorem abz {fn:Func} {p q:Tmp} {t1 t2:TypeId} (h:fn.results= #[.cell p t1,.cell q t2]) (tmps:Array aj) (P:dH) (w:Z) (v1 v2:aj) (g1 g2:Nat)
 (h1:tmps.getD p aV= aN (N ⟨g1,0,J⟩)) (h2:tmps.getD q aV= aN (N ⟨g2,0,J⟩)) (l1:(loadVar t1 ⟨g1,0,J⟩).run P w= .ok v1 w) (l2:(loadVar t2 ⟨g2,0,J⟩).run P w= .ok v2 w):
 (results fn tmps).run P w= .ok (.tuple #[v1,v2]) w:=by
 have h1':tmps[p]?.getD aV= aN (N ⟨g1,0,J⟩):=by simpa using h1
 have h2':tmps[q]?.getD aV= aN (N ⟨g2,0,J⟩):=by simpa using h2
 simp[results,h,h1',h2',asAddr,l1,l2]
theorem LW {bf:Fence} {n:Nat} {P:dH} {w:Z} {ops:Array dC} {rest:List dC} {o:dC} {a:Act} {Q:Exit->Act->Z->Prop} {fs:Array Field}
 (hg:o.guard=J) (ty:TypeId) (x:lU) (ho:o.op= .load ty x) (b:Nat) (hx:a.eval x= aN (N ⟨b,0,J⟩)) {t:TypeId} {cs:Array aj} (hB:au w b t cs) (hu:P.underlying ty=N (.struct fs)) (hi:(P.info? ty).map (·.size)=N cs.size)
 (h:wpListIn bf n P ops Q rest (a.put o.dst (az cs)) w):wpListIn bf n P ops Q (o::rest) a w:=by
 refine wpListIn_plain hg λK hK'=> ?_
 unfold Oper.wpIn;refine⟨?_,?_⟩
 ·simp[Oper.about,ho]
 ·rw[Oper.semAt_plain bf _ _ (by rw[ho];intro c hc';cases hc')];simp[execOp,ho,hx,Instr.loadAt,Instr.sureAddr,Mm w b t ty cs (0,0) _ hB hu rfl hi,Result.andThen];exact hK' _ _ h
theorem aly {w:Z} {s b:Nat} {v:aj} {n:Nat} {xs:List aj} {cs:Array aj} (h:w.ownsRow s 277 3 v n xs) (hb:au w b 32 cs) {g:Nat} (hg:v.ownBlock=N g):
 s<=g/\g≠b/\ ∀ cs fz,w.heap[g]? ≠N (.cells cs 3 fz):=by
 rcases h.2 with ⟨rfl,_⟩|⟨g',cap,cur,rfl,hsg,hgb,_⟩
 ·cases hg
 ·obtain rfl:g'=g:=by simpa [yz] using hg
  refine⟨hsg,?_,λcs fz h2=> ?_⟩
  ·rintro rfl;exact(show au w g' 277 cur from hgb).ne hb aJ rfl
  ·rw[hgb]at h2;injection h2 with h2
   injection h2 with _ h2 _
   exact absurd h2 aJ
theorem aa8 {w:Z} {o:Obj} {s b:Nat} {v:aj} {n:Nat} {xs:List aj} {cs:Array aj} (h:w.ownsRow s 277 3 v n xs) (hb:au w b 32 cs) {g:Nat} (hg:v.ownBlock=N g):
 s<=g/\g≠b/\ ∀ cs fz,(w.alloc o).heap[g]? ≠N (.cells cs 3 fz):=by
 rcases h.2 with ⟨rfl,_⟩|⟨g',cap,cur,rfl,hsg,hgb,_⟩
 ·cases hg
 ·obtain rfl:g'=g:=by simpa [yz] using hg
  have hlt:=(nM.1 hgb).1;refine⟨hsg,?_,λcs fz h2=> ?_⟩
  ·rintro rfl;exact(show au w g' 277 cur from hgb).ne hb aJ rfl
  ·rw[L8 w o g' hlt,hgb]at h2;injection h2 with h2
   injection h2 with _ h2 _
   exact absurd h2 aJ
def RD (l:List fE) (w:Z) (e:eG) (w':Z):Prop:=
 ∃ v,e= .returned (.tuple #[v,G F 0])/\w'.ownsRow w.heap.size 277 3 v l.length (cellsOf fE.cells l)/\Below w.heap.size w w'
def wH (L:List aM) (el:List aY) (e:Nat):List fE:=if e=0 then [⟨-25568,84006,3⟩] else Sc.wI (λd=>Db L el d e) 84006 (Sc.days (-25567) L)
section
variable (aB:Array aj) (cur:ByteArray) (y m p:Int) (cl:List Acc) (cA:Option aG) (cc:Nat) (ro:dZ) (el:List aY) (eA:Option aG) (ec:Nat) (w:Z)
theorem ai4 (bf:Fence) (q:Nat) (hq:5<=q) (Av:bf.fn 237) (hF1:bf.fn 267) (hF2:bf.fn 293) (Kb:bf.fn 126) (SY:bf.fn 268) (hF5:bf.fn 77) (hro:bf.round=J)
 (HG:Hid (aB= #[av cur,G F y,G F m,G F p,T cA cl.length cc,G F ro.dU,G F ro.dR,G F ro.dO,G F ro.inventory,G F ro.reserve,G F ro.dV,G F ro.dJ,G F ro.acquired,G F ro.dX,G F ro.dP,G F ro.dN,G F ro.dQ,G F ro.dW,G F ro.difference,G F ro.dL,T eA el.length ec])) (hg:eB w cl cA el eA) (L:List aM) (A:Option aG) (cp:Nat) (e:Nat) (he:e<el.length) (hr:Rd w w.heap.size 4 A L.length (cellsOf aM.cells L))
 (Zn: ∀ (W:Z),Rd W W.heap.size 4 A L.length (cellsOf aM.cells L)->aaM bf (q - 1) ak 77 #[G F el.length,T A L.length cp] W λe w'=>e= .returned (aA ae)/\Below W.heap.size W w')
 (hD: ∀ (r:Nat) (W:Z),Rd W W.heap.size 4 A L.length (cellsOf aM.cells L)->aaM bf r ak 126 #[T A L.length cp] W (NL 3 (L.map aM.date) W))
 (hok: ∀ (r:Nat) (d:Int) (W:Z),eB W cl cA el eA->Rd W W.heap.size 4 A L.length (cellsOf aM.cells L)->Gr.eZ d=ae->aaM bf r ak 268 #[az aB,T A L.length cp,G F e,G F d] W λen w'=>en= .returned (bG #[G F (Db L el d e),G F 0])/\Below W.heap.size W w')
 (hbad: ∀ (r:Nat) (d:Int) (W:Z),Rd W W.heap.size 4 A L.length (cellsOf aM.cells L)->Gr.eZ d=ag->aaM bf r ak 268 #[az aB,T A L.length cp,G F e,G F d] W λen w'=>en= .returned (bG #[G F 0,G F 2])/\Below W.heap.size W w')
 (ZC: ∀ x∈Sc.days (-25567) L,Gr.eZ x=ae) (hln:(Sc.days (-25567) L).length<=1000):
 aaM bf q ak 237 #[az aB,T A L.length cp,G F e] w (RD (wH L el e) w):=by
 have h1:1<=q:=O;have H:=I hg;have HR:=I hr;have adT:=I Zn;have HD:=I hD;have dx:=I hok;have HBAD:=I hbad;have HDY:=I ZC;have hgi:(ak.info? 29).map (·.size)=N aB.size:=by rw[HG.out];exact gy
 obtain⟨i0,hi0,hz0,hz1,hz2⟩:=jh fE.info;clear hg hr Zn hD hok hbad ZC;refine callsIn_of_wp_marks Tryz.func237 rfl Av ?_ hro;simp only[Tryz.ntmps237,nk,gX,mI,Nat.reduceAdd,Nat.reduceSub,qy,qz,qA,qB,oU,oV];obtain⟨w1,hw1⟩: ∃ w1,((((w.alloc (U aB 29)).alloc (U #[T A L.length cp] 32)).alloc (U #[G F e] 3)).alloc (U #[T J 0 0] 322)).alloc (U #[G F 0] 46)=w1:=⟨_,rfl⟩;have hb1:Below w.heap.size w w1:=by rw[<- hw1];exact(((((aD _ w).alloc (aC _) _).alloc aL _).alloc bL _).alloc bL _).alloc bL _
 have hs1:w1.heap.size=w.heap.size+1+1+1+1+1:=by rw[<- hw1];simp
 have g0:au w1 w.heap.size 29 aB:=by rw[<- hw1];exact((((au.new w _ _).alloc _).alloc _).alloc _).alloc _
 have g1:au w1 (w.heap.size+1) 32 #[T A L.length cp]:=by rw[<- hw1];exact(((eT w _ _ _).alloc _).alloc _).alloc _
 have g2:au w1 (w.heap.size+1+1) 3 #[G F e]:=by
  rw[<- hw1];have:=eT (w.alloc (U aB 29)) (U #[T A L.length cp] 32) 3 #[G F e];rw[fG]at this;exact(this.alloc _).alloc _
 have g3:au w1 (w.heap.size+1+1+1) 322 #[T J 0 0]:=by
  rw[<- hw1];have:=eT ((w.alloc (U aB 29)).alloc (U #[T A L.length cp] 32)) (U #[G F e] 3) 322 #[T J 0 0];rw[fG,fG]at this;exact this.alloc _
 have g4:au w1 (w.heap.size+1+1+1+1) 46 #[G F 0]:=by
  rw[<- hw1];have:=eT (((w.alloc (U aB 29)).alloc (U #[T A L.length cp] 32)).alloc (U #[G F e] 3)) (U #[T J 0 0] 322) 46 #[G F 0];rw[fG,fG,fG]at this;exact this
 have V7:=I g0;have BA:=I g1;have HG2:=I g2;have V8:=I g3;have V9:=I g4;clear g0 g1 g2 g3 g4;have e20:w1.cell? ⟨w.heap.size,20,J⟩=N (T eA el.length ec):=(V7.out.cell 20).trans aQ;have c1:w1.cell? ⟨w.heap.size+1,0,J⟩=N (T A L.length cp):=BA.out.cell 0;have XA:=I (adT.out w1 (Rd.now HR.out hb1));have apM:(e:Int)<el.length:=O;have apN: ¬ (el.length:Int)<=(e:Int):=O
 by_cases he0:e=0
 ·have ah7:((e:Int)==0)=ae:=by simp[he0]
  have ah9:decide (el.length<=e)=ag:=iw O;have ah8:decide ((e:Int)<0)=ag:=iw O;have OH:wH L el e= [⟨-25568,84006,3⟩]:=by unfold wH;rw[bB he0]
  have QL:=I OH;clear OH he0;gi_wp2_with (gi_at_call 77;refine(XA.out).mono ?_;rintro en w2 ⟨rfl,ah⟩;have hb2:=ay hb1 ah;have DU:=I (V8.out.step ah);have I1:=I (V9.out.step ah);have d2:=(HG2.out.step ah).cell 0;have hs2:=ah.size;have d3:=(DU.out.alloc (U #[G F (-25568),G F 84006,G F 3] 277)).cell 0;have z3:=(DU.out.alloc (U #[G F (-25568),G F 84006,G F 3] 277)).frozen 0;have d4:=(I1.out.alloc (U #[G F (-25568),G F 84006,G F 3] 277)).cell 0;have z4:=(I1.out.alloc (U #[G F (-25568),G F 84006,G F 3] 277)).frozen 0;clear ah);have n34:(w.heap.size+1+1+1)≠(w.heap.size+1+1+1+1):=O;have B3:au (((w2.alloc (U #[G F (-25568),G F 84006,G F 3] 277)).setCell ⟨w.heap.size+1+1+1,0,J⟩ (T (N ⟨w2.heap.size,0,J⟩) 1 1)).setCell ⟨w.heap.size+1+1+1+1,0,J⟩ (G F 0)) (w.heap.size+1+1+1) 322 #[T (N ⟨w2.heap.size,0,J⟩) 1 1]:=((DU.out.alloc _).bZ 0 _).far (p:=⟨w.heap.size+1+1+1+1,0,J⟩) n34 _;have B4:au (((w2.alloc (U #[G F (-25568),G F 84006,G F 3] 277)).setCell ⟨w.heap.size+1+1+1,0,J⟩ (T (N ⟨w2.heap.size,0,J⟩) 1 1)).setCell ⟨w.heap.size+1+1+1+1,0,J⟩ (G F 0)) (w.heap.size+1+1+1+1) 46 #[G F 0]:=((I1.out.alloc _).far (p:=⟨w.heap.size+1+1+1,0,J⟩) (pK n34) _).bZ 0 (G F 0);have B5:au (((w2.alloc (U #[G F (-25568),G F 84006,G F 3] 277)).setCell ⟨w.heap.size+1+1+1,0,J⟩ (T (N ⟨w2.heap.size,0,J⟩) 1 1)).setCell ⟨w.heap.size+1+1+1+1,0,J⟩ (G F 0)) w2.heap.size 277 #[G F (-25568),G F 84006,G F 3]:=((au.new w2 _ _).far (p:=⟨w.heap.size+1+1+1,0,J⟩) (by show w2.heap.size≠w.heap.size+1+1+1;omega) _).far (p:=⟨w.heap.size+1+1+1+1,0,J⟩) (by show w2.heap.size≠w.heap.size+1+1+1+1;omega) _;refine⟨_,abz rfl _ _ _ (T (N ⟨w2.heap.size,0,J⟩) 1 1) (G F 0) (w.heap.size+1+1+1) (w.heap.size+1+1+1+1) rfl rfl ?_ ?_,_,rfl,?_,?_⟩
  ·simp[loadVar,Tryz.isAgg322,run_load,B3.cell,Result.andThen]
  ·simp[loadVar,Tryz.isAgg46,run_load,B4.cell,Result.andThen]
  ·rw[QL.out];exact⟨rfl,.inr ⟨w2.heap.size,1,_,rfl,by have:=hb2.size;omega,B5,aC _,aJ,rfl,rfl⟩⟩
  ·exact((hb2.alloc hb2.size _).setCell (p:=⟨w.heap.size+1+1+1,0,J⟩) (by show w.heap.size<=w.heap.size+1+1+1;omega) _).setCell (p:=⟨w.heap.size+1+1+1+1,0,J⟩) (by show w.heap.size<=w.heap.size+1+1+1+1;omega) _
 ·have ah6: ¬ (e:Int)=0:=O;have ah7:((e:Int)==0)=ag:=by simpa using ah6
  have ah8:decide ((e:Int)<0)=ag:=iw O;have ah9:decide (el.length<=e)=ag:=iw O;gi_wp2_with (first
   |(gi_at_call 77;refine(XA.out).mono ?_;rintro en w2 ⟨rfl,ah⟩;have hb2:=ay hb1 ah;have HH0:=I (V7.out.step ah);have QH:=I (BA.out.step ah);have BB:=I (HG2.out.step ah);have DU:=I (V8.out.step ah);have I1:=I (V9.out.step ah);have d1:=QH.out.cell 0;have d2:=BB.out.cell 0;have hs2:=ah.size;have d3:(w2.alloc (U #[T J 0 0] 322)).cell? ⟨w.heap.size+1,0,J⟩=N (T A L.length cp):=(QH.out.alloc _).cell 0;clear ah)
   |(gi_at_call 267;refine(qO bf (q - 1) hF1 hro _ _ _ _).mono ?_;rintro en w' ⟨rfl,rfl⟩))
  have aiF:=hb2.size;obtain⟨W0,hW0⟩: ∃ W0,(w2.alloc (U #[T J 0 0] 322)).alloc (U #[T A L.length cp] 32)=W0:=⟨_,rfl⟩;have hsz:W0.heap.size=w2.heap.size+1+1:=by rw[<- hW0];simp
  have hq0:Below w2.heap.size w2 W0:=by rw[<- hW0];exact((aD _ w2).alloc (aC _) _).alloc aL _
  have hB0:=hb2.trans (hq0.mono aiF);have k0:Boxed W0 w2.heap.size 322 (T J 0 0):=by rw[<- hW0];exact(au.new w2 _ _).alloc _
  have k1:au W0 (w2.heap.size+1) 32 #[T A L.length cp]:=by rw[<- hW0];exact eT w2 _ _ _
  rw[hW0];clear hW0 d3;have HW0:=I (HH0.out.step hq0);have HW1:=I (QH.out.step hq0);have HW2:=I (BB.out.step hq0);have HW3:=I (DU.out.step hq0);have HW4:=I (I1.out.step hq0);have hbz:w.heap.size<=w2.heap.size+1:=O;obtain⟨mt,hmt⟩: ∃ mt:Int->Int,mt=λd=>Db L el d e:=⟨_,rfl⟩
  have D7:Hid (∀ (r:Nat) (d:Int) (W:Z),eB W cl cA el eA->Rd W W.heap.size 4 A L.length (cellsOf aM.cells L)->Gr.eZ d=ae->aaM bf r ak 268 #[az aB,T A L.length cp,G F e,G F d] W λen w'=>en= .returned (bG #[G F (mt d),G F 0])/\Below W.heap.size W w'):=I (by rw[hmt];exact dx.out);have QL:Hid (wH L el e=Sc.wI mt 84006 (Sc.days (-25567) L)):=I (by unfold wH;rw[bE he0,hmt]);clear dx hmt;refine wpIn_rangeFunc_ownH hro h1 (gf:=293) (lb:= #[aN (N ⟨w2.heap.size+1,0,J⟩)]) rfl hF2 (enters_of Tryz.func293 ai rfl)
   (afP bf (q - 1) O hF2 Kb hro L A cp w.heap.size (w2.heap.size+1) W0 (HR.out.below hB0 (aC _)) O hbz k1 (λW hr=>HD.out _ W hr)) ajr
   (λW l o o' hl h1 h2 h3=>ajq O O h1 h2 h3) (aD _ _) (λ_=>rfl)
   (λ(pre:List Int) W=>((au W w.heap.size 29 aB/\au W (w.heap.size+1) 32 #[T A L.length cp])/\(au W (w.heap.size+1+1) 3 #[G F e]/\au W (w.heap.size+1+1+1) 322 #[T J 0 0]))/\
    ((au W (w.heap.size+1+1+1+1) 46 #[G F 0]/\au W (w2.heap.size+1) 32 #[T A L.length cp])/\
      ((∃ v,Boxed W w2.heap.size 322 v/\W.ownsRow w.heap.size 277 3 v (Sc.wI mt 84006 pre).length (cellsOf fE.cells (Sc.wI mt 84006 pre))/\True)/\Below w.heap.size w W)))
   (λ_ pre _=> ∃ x∈pre,Gr.eZ x=ag)
   (OwnFrom.and (OwnFrom.and (OwnFrom.and (Own.from (nC _ _ _) _) (Own.from (nC _ _ _) _)) (OwnFrom.and (Own.from (nC _ _ _) _) (Own.from (nC _ _ _) _)))
    (OwnFrom.and (OwnFrom.and (Own.from (nC _ _ _) _) (Own.from (nC _ _ _) _))
     (OwnFrom.and (Own.from (holdsRow_own w.heap.size w2.heap.size 322 277 3 (λpre=>(Sc.wI mt 84006 pre).length) (λpre=>cellsOf fE.cells (Sc.wI mt 84006 pre)) (λ_ _=>True)) _) (ownFrom_below (aC _) O))))
   (λ_ _ _ _ _ hs _ _=>hs)
   ⟨⟨⟨HW0.out,HW1.out⟩,HW2.out,HW3.out⟩,⟨HW4.out,k1⟩,⟨_,k0,jZ _ _ _ _,trivial⟩,hB0⟩
   (λ(x:Int) a' W=>a'= { tmps:= #[az aB,T A L.length cp,G F e,aN (N ⟨w.heap.size,0,J⟩),aN (N ⟨w.heap.size+1,0,J⟩),aN (N ⟨w.heap.size+1+1,0,J⟩),aN (N ⟨w.heap.size+1+1+1,0,J⟩),aN (N ⟨w.heap.size+1+1+1+1,0,J⟩),G F el.length,aN (N ⟨w2.heap.size,0,J⟩),G F x,aV,aV,aV,aN (N ⟨w.heap.size,20,J⟩),T eA el.length ec,G F el.length,G F el.length,T A L.length cp,aA ae,aA ag,G F e,aA ag,aA ag,G F e,G F el.length,aA ag,aA ag,G F e,aA ag,aV,aV,T A L.length cp,.func (.func 293) #[] #[aN (N ⟨w2.heap.size+1,0,J⟩)],G F x,aV,aV,aV,aV,aV,aV,aV,aV,aV,aV,aV,aV,aV,aV,aV,aV,aV,aV,aV,aV,aV,aV,aV,aV,aV,aV,aV,aV,aV,aV,aV,aV,aV,aV,aV,aV,aV,aV,aV,aV],defers:= [] })
   (λx a' _ X Y row hs hg hr=>hs)
   ?assign ?body ?done ?stop
  case assign=>
   rintro l' pre x W K hI hK;unfold Ob;gi_wp2;exact hK _ _ (KeepsFrom.refl _ _) (iV.refl _ _ _) hI rfl
  case body=>
   rintro l' pre x a' W hl ⟨r,hr⟩ ⟨⟨⟨i0,i1⟩,i2,i3⟩,⟨i4,i5⟩,⟨v,hv,hrow,-⟩,hB1⟩ rfl hlt;have e1:=i1.cell 0;have e2:=i2.cell 0;have Ld:=hB1.size;have HI0:=I i0;have HI1:=I i1;have HI2:=I i2;have HI3:=I i3;have HI4:=I i4;have DV:=I i5;have HV:=I hv;have BL:=I hrow;have hlb:=i5.lt;have hol:=Sc.ajh mt 84006 pre;have HST:=I (Sc.aji mt 84006 pre x);generalize Sc.wI mt 84006 pre=di at*;clear i0 i1 i2 i3 i4 i5 hv hrow hr;have h2:1<=q - 1 - 1:=O
   cases hdv:Gr.eZ x
   ·have KB:=I ((HBAD.out (q - 1 - 1 - 1) x W (Rd.now HR.out hB1) hdv).inRound l');have HDV:=I hdv;clear hdv;gi_wp2_with (first
     |(refine LW rfl 29 (.tmp 3) rfl w.heap.size rfl HI0.out bQ hgi ?_)
     |(gi_at_call 268;refine(KB.out).mono ?_;rintro en w5 ⟨rfl,ah⟩;have m3:=(HI3.out.step ah).cell 0;have y3:=(HI3.out.step ah).frozen 0;have m4:=(HI4.out.step ah).cell 0;have y4:=(HI4.out.step ah).frozen 0))
    have hgk:=KeepsOthers.of_grownBy (sF ah J) (λj o h=>by cases h);exact⟨((hgk.trans (KeepsOthers.setCell _ _ _)).trans (KeepsOthers.setCell _ _ _)).from _,x,aL,HDV.out⟩
   ·have KB:=I ((D7.out (q - 1 - 1 - 1) x W (H.out.step hB1) (Rd.now HR.out hB1) hdv).inRound l');have QR:=I (λ(W':Z) (hb:Below W.heap.size W W')=>iV.of_below (s:=w.heap.size) (b:=w2.heap.size+1) hb Ld hlb);clear hdv;obtain⟨mx,hmx⟩: ∃ mx,mt x=mx:=⟨_,rfl⟩;have yN:=I hmx;rw[hmx]at KB;clear hmx;have hn0:di.length<=1000000:=by
     have:pre.length<1001:=O;omega
    rcases ry di.length with GM|GM
    ·have HO0:Hid (Sc.step mt 84006 di x=di++ [⟨x,84006,mx⟩]):=I (by rw[Sc.aon mt 84006 di x (zC GM),yN.out]);obtain⟨A0,c0,rfl,-⟩:=Rd.dE BL.out;have hO1: ¬ ((di.length:Int))>0:=O;have hO2:decide ((di.length:Int)>0)=ag:=iw hO1;have hO3: ¬ 0<di.length:=O;clear GM;gi_wp2_with (first
      |(refine LW rfl 29 (.tmp 3) rfl w.heap.size rfl HI0.out bQ hgi ?_)
      |(gi_at_call 268;refine(KB.out).mono ?_;rintro en w5 ⟨rfl,ah⟩;have hv5:=HV.out.kept (sF ah J) aL;have f5:=hv5.cell;have z5:=hv5.frozen;have Ed:=I (dF BL.out ah);have HV5:=I hv5;have AA:=ah.size;have iM:=I ah;have uD:=Ed;have Jq:=HV5;clear hv5)
      |(gi_at_builtin;(refine wpListIn_append_own _ rfl _ _ 322 rfl w.heap.size 277 i0 _ 3 24 Tryz.underlying322 hi0 hz0 hz1 hz2 rfl aJ _ _ _ rfl (uD.out.alloc (U #[G F x,G F 84006,G F mx] 277)) ⟨w5.heap.size,0,J⟩ 1 1 (fE.cells ⟨x,84006,mx⟩) rfl rfl (Cf w5 _ _ _ rfl) (fE.one _) (by simp only[bK];omega) O bL ?_;intro v' w6 hown' hgrow _;obtain⟨g',cap',rfl⟩:=ownsRow_succ hown';obtain⟨hv1,hv2,hr2,hk2,hb2'⟩:=Jq.out.appended aJ uD.out O O hown' hgrow;have hc1:=hv1.cell;have hf1:=hv1.frozen;have IZ:=I hgrow;have HF:=I (cz hv2 (cz hr2 (cz hk2 hb2')));clear hown' hgrow hv1 hv2 hr2 hk2 hb2')))
     have HX0:=I (HI0.out.step iM.out);have df:=I (HI1.out.step iM.out);have dn:=I (HI2.out.step iM.out);have jO:=I (HI3.out.step iM.out);have gL:=I (HI4.out.step iM.out);have gN:=I (DV.out.step iM.out);have Rq:=HO0;have hko:=KeepsOthers.of_grownBy (sF iM.out J) (λj o h=>by cases h);have KQ:=QR.out _ iM.out;have hbx:=hB1.trans (iM.out.mono Ld);clear hc1 hf1;obtain⟨fv,fr,fk,fb⟩:=HF.out;have hstep: ∀ {B:Nat} {t:TypeId} {cs:Array aj},au w5 B t cs->B≠w2.heap.size->t≠277->au (w6.setCell ⟨w2.heap.size,0,J⟩ (T (N ⟨g',0,J⟩) (di.length+1) cap')) B t cs:=λhB h1 ht=>((hB.alloc _).grown IZ.out (gF uD.out hB ht)).far (p:=⟨w2.heap.size,0,J⟩) (by show _≠w2.heap.size;exact h1) _
     have hkt:iV w.heap.size (w2.heap.size+1) w5 (w6.setCell ⟨w2.heap.size,0,J⟩ (T (N ⟨g',0,J⟩) (di.length+1) cap')):=by
      have k1:iV w.heap.size (w2.heap.size+1) w5 (w5.alloc (U #[G F x,G F 84006,G F mx] 277)):=iV.of_below ((aD _ _).alloc (aC _) _) O O;have k2:iV w.heap.size (w2.heap.size+1) (w5.alloc (U #[G F x,G F 84006,G F mx] 277)) w6:=iV.Df IZ.out bL bL (λg hg=>aa8 uD.out gN.out hg);exact(k1.trans k2).set _ _ (by show w.heap.size<=w2.heap.size;omega) (by show w2.heap.size<w2.heap.size+1;omega)
     have hst:Sc.step mt 84006 di x=di++ [⟨x,84006,mx⟩]:=Rq.out;gi_wp2;exact⟨(hko.trans fk).from _,KQ.trans hkt,⟨⟨hstep HX0.out O aJ,hstep df.out O aJ⟩,hstep dn.out O aJ,hstep jO.out O aJ⟩,⟨hstep gL.out O aJ,hstep gN.out O aJ⟩,
      ⟨_,fv,by rw[HST.out,hst,fK,ow,y8,show cellsOf fE.cells [(⟨x,84006,mx⟩:fE)]=fE.cells ⟨x,84006,mx⟩ from by simp[cellsOf]];exact fr,trivial⟩,hbx.trans fb⟩
    ·obtain⟨j,hj⟩: ∃ j,di.length=j+1:=⟨di.length - 1,O⟩;have hjl:j<di.length:=O;obtain⟨g0,c0,Yr,rfl,hsg,hgb,hcap,GQ⟩:=UM BL.out GM;have Bt:=I hgb;have zW:Hid (Yr[j*3+2]? =N (G F di[j].method)):=I (GQ _ _ (by rw[Ex (f:=fE.cells) (sz:=3) (λ_=>rfl) di j 2 hjl O];rfl));have vS:Hid (Yr[j*3+1]? =N (G F di[j].Dp)):=I (GQ _ _ (by rw[Ex (f:=fE.cells) (sz:=3) (λ_=>rfl) di j 1 hjl O];rfl));have Jm:Hid (di[j].method=mx->Sc.step mt 84006 di x=di):=I (λhm=>Sc.aoq mt 84006 di x GM (by rw[yN.out];simpa [hj] using hm));have WZ:Hid (di[j].method≠mx->Sc.step mt 84006 di x=di.set j ⟨di[j].from_,x,di[j].method⟩++ [⟨x,84006,mx⟩]):=I (λhm=>by
      have:=Sc.aop mt 84006 di x GM (by rw[yN.out];simpa [hj] using hm);rw[this,yN.out];simp[hj])
     have WX:=I (ai5 di j hjl x);obtain⟨M,hM⟩: ∃ M,M=di[j].method:=⟨_,rfl⟩;obtain⟨T1,hT1⟩: ∃ T1,T1=di[j].Dp:=⟨_,rfl⟩;rw[<- hM]at zW Jm WZ WX;rw[<- hT1]at vS;clear hM hT1 hgb GQ;have p1:(di.length:Int)>0:=O;have p2:decide ((di.length:Int)>0)=ae:=kK p1;have p3:((di.length:Int) - 1).toNat=j:=O;have p4:(0:Int)<=(di.length:Int) - 1:=O;have p5:(di.length:Int) - 1<(di.length:Int):=O;have p6:(di.length:Int) - 1=(j:Int):=O;have p7:(j:Int)<(di.length:Int):=O;have hjb:j<1000000:=O;clear hj
     by_cases Ti:M=mx
     ·subst Ti;have HS2:=I (Jm.out rfl);gi_wp2_with (first
       |(refine LW rfl 29 (.tmp 3) rfl w.heap.size rfl HI0.out bQ hgi ?_)
       |(gi_at_call 268;refine(KB.out).mono ?_;rintro en w5 ⟨rfl,ah⟩;have hv5:=HV.out.kept (sF ah J) aL;have f5:=hv5.cell;have z5:=hv5.frozen;have Ed:=I (dF BL.out ah);have HV5:=I hv5;have AA:=ah.size;have iM:=I ah;have DL:=I (Bt.out.step ah);have q2:w5.cell? ⟨g0,j*3+2,J⟩=N (G F M):=((Bt.out.step ah).cell (j*3+2)).trans zW.out;have q1:w5.cell? ⟨g0,j*3+1,J⟩=N (G F T1):=((Bt.out.step ah).cell (j*3+1)).trans vS.out;have z1:=(Bt.out.step ah).frozen (j*3+1);clear hv5))
      have hko:=KeepsOthers.of_grownBy (sF iM.out J) (λj o h=>by cases h);have KQ:=QR.out _ iM.out;have hbx:=hB1.trans (iM.out.mono Ld);exact⟨hko.from _,KQ,⟨⟨HI0.out.step iM.out,HI1.out.step iM.out⟩,HI2.out.step iM.out,HI3.out.step iM.out⟩,⟨HI4.out.step iM.out,DV.out.step iM.out⟩,⟨_,HV5.out,by rw[HST.out,HS2.out];exact Ed.out,trivial⟩,hbx⟩
     ·have HS2:=I (WZ.out Ti);have hMd:(M==mx)=ag:=by simpa using Ti
      gi_wp2_with (first
       |(refine LW rfl 29 (.tmp 3) rfl w.heap.size rfl HI0.out bQ hgi ?_)
       |(gi_at_call 268;refine(KB.out).mono ?_;rintro en w5 ⟨rfl,ah⟩;have hv5:=HV.out.kept (sF ah J) aL;have f5:=hv5.cell;have z5:=hv5.frozen;have Ed:=I (dF BL.out ah);have HV5:=I hv5;have AA:=ah.size;have iM:=I ah;have DL:=I (Bt.out.step ah);have q2:w5.cell? ⟨g0,j*3+2,J⟩=N (G F M):=((Bt.out.step ah).cell (j*3+2)).trans zW.out;have q1:w5.cell? ⟨g0,j*3+1,J⟩=N (G F T1):=((Bt.out.step ah).cell (j*3+1)).trans vS.out;have z1:=(Bt.out.step ah).frozen (j*3+1);have aif:w2.heap.size≠g0:=(by have:=HV.out.not_row aJ BL.out;intro e;exact this (by rw[e];rfl));have Jq:Hid (Boxed (w5.setCell ⟨g0,j*3+1,J⟩ (G F x)) w2.heap.size 322 (T (N ⟨g0,0,J⟩) di.length c0)):=I ((show au w5 w2.heap.size 322 #[T (N ⟨g0,0,J⟩) di.length c0] from HV5.out).far (p:=⟨g0,j*3+1,J⟩) aif _);have f6:=Jq.out.cell;have z6:=Jq.out.frozen;have uD:Hid ((w5.setCell ⟨g0,j*3+1,J⟩ (G F x)).ownsRow w.heap.size 277 3 (T (N ⟨g0,0,J⟩) di.length c0) di.length (cellsOf fE.cells (di.set j ⟨di[j].from_,x,M⟩))):=I (by rw[<- WX.out];exact(Ed.out.stored (j*3+1) (G F x)).1);clear hv5)
       |(gi_at_builtin;(refine wpListIn_append_own _ rfl _ _ 322 rfl w.heap.size 277 i0 _ 3 24 Tryz.underlying322 hi0 hz0 hz1 hz2 rfl aJ _ _ _ rfl (uD.out.alloc (U #[G F x,G F 84006,G F mx] 277)) ⟨w5.heap.size,0,J⟩ 1 1 (fE.cells ⟨x,84006,mx⟩) rfl rfl (λj' u hu=>by have h:=Cf (w5.setCell ⟨g0,j*3+1,J⟩ (G F x)) #[G F x,G F 84006,G F mx] 277 _ rfl j' u hu;rwa [World.size_setCell]at h) (fE.one _) (by simp only[bK];omega) O bL ?_;intro v' w6 hown' hgrow _;obtain⟨g',cap',rfl⟩:=ownsRow_succ hown';obtain⟨hv1,hv2,hr2,hk2,hb2'⟩:=Jq.out.appended aJ uD.out bL O hown' hgrow;have hc1:=hv1.cell;have hf1:=hv1.frozen;have IZ:=I hgrow;have HF:=I (cz hv2 (cz hr2 (cz hk2 hb2')));clear hown' hgrow hv1 hv2 hr2 hk2 hb2')))
      have GR: ∀ {B:Nat} {t:TypeId} {cs:Array aj},au w5 B t cs->t≠277->au (w5.setCell ⟨g0,j*3+1,J⟩ (G F x)) B t cs:=λhB ht=>hB.far (p:=⟨g0,j*3+1,J⟩) (hB.ne DL.out ht) _
      have HX0:=I (GR (HI0.out.step iM.out) aJ);have df:=I (GR (HI1.out.step iM.out) aJ);have dn:=I (GR (HI2.out.step iM.out) aJ);have jO:=I (GR (HI3.out.step iM.out) aJ);have gL:=I (GR (HI4.out.step iM.out) aJ);have gN:=I (GR (DV.out.step iM.out) aJ);have Rq:=HS2;have hko:=(KeepsOthers.of_grownBy (sF iM.out J) (λj o h=>by cases h)).trans (KeepsOthers.setCell w5 ⟨g0,j*3+1,J⟩ (G F x));have KQ:=(QR.out _ iM.out).trans (iV.Df (Ed.out.stored (j*3+1) (G F x)).2 O O (λg hg=>by
       cases hg
       exact aly Ed.out (DV.out.step iM.out) rfl))
      have hbx:=(hB1.trans (iM.out.mono Ld)).setCell (p:=⟨g0,j*3+1,J⟩) hsg (G F x);clear hc1 hf1;obtain⟨fv,fr,fk,fb⟩:=HF.out;have hstep: ∀ {B:Nat} {t:TypeId} {cs:Array aj},au (w5.setCell ⟨g0,j*3+1,J⟩ (G F x)) B t cs->B≠w2.heap.size->t≠277->au (w6.setCell ⟨w2.heap.size,0,J⟩ (T (N ⟨g',0,J⟩) (di.length+1) cap')) B t cs:=λhB h1 ht=>((hB.alloc _).grown IZ.out (gF uD.out hB ht)).far (p:=⟨w2.heap.size,0,J⟩) (by show _≠w2.heap.size;exact h1) _
      have hkt:iV w.heap.size (w2.heap.size+1) (w5.setCell ⟨g0,j*3+1,J⟩ (G F x)) (w6.setCell ⟨w2.heap.size,0,J⟩ (T (N ⟨g',0,J⟩) (di.length+1) cap')):=by
       have k1:iV w.heap.size (w2.heap.size+1) (w5.setCell ⟨g0,j*3+1,J⟩ (G F x)) ((w5.setCell ⟨g0,j*3+1,J⟩ (G F x)).alloc (U #[G F x,G F 84006,G F mx] 277)):=iV.of_below ((aD _ _).alloc (aC _) _) bL bL;have k2:iV w.heap.size (w2.heap.size+1) ((w5.setCell ⟨g0,j*3+1,J⟩ (G F x)).alloc (U #[G F x,G F 84006,G F mx] 277)) w6:=iV.Df IZ.out bL bL (λg hg=>aa8 uD.out gN.out hg);exact(k1.trans k2).set _ _ (by show w.heap.size<=w2.heap.size;omega) (by show w2.heap.size<w2.heap.size+1;omega)
      have hst:Sc.step mt 84006 di x=di.set j ⟨di[j].from_,x,M⟩++ [⟨x,84006,mx⟩]:=Rq.out;gi_wp2;exact⟨(hko.trans fk).from _,KQ.trans hkt,⟨⟨hstep HX0.out O aJ,hstep df.out O aJ⟩,hstep dn.out O aJ,hstep jO.out O aJ⟩,⟨hstep gL.out O aJ,hstep gN.out O aJ⟩,
       ⟨_,fv,by rw[HST.out,hst,fK,ow,List.length_set,y8,show cellsOf fE.cells [(⟨x,84006,mx⟩:fE)]=fE.cells ⟨x,84006,mx⟩ from by simp[cellsOf]];exact fr,trivial⟩,hbx.trans fb⟩
  case done=>
   rintro D ys W hD rfl ⟨⟨⟨i0,i1⟩,i2,i3⟩,⟨i4,i5⟩,⟨v,hv,hrow,-⟩,hB1⟩ hK;generalize Sc.wI mt 84006 (Sc.days (-25567) L)=di at*;obtain⟨A9,c9,rfl,-⟩:=Rd.dE hrow;have f0:=hv.cell;have f3:=i3.cell 0;have z3:=i3.frozen 0;have f4:=i4.cell 0;have z4:=i4.frozen 0;have n34:(w.heap.size+1+1+1)≠(w.heap.size+1+1+1+1):=O;have CF:((W.setCell ⟨w.heap.size+1+1+1,0,J⟩ (T A9 di.length c9)).setCell ⟨w.heap.size+1+1+1+1,0,J⟩ (G F 0)).heap[D]? =N (.deferred (N [])):=by
    rw[uZ _ _ _ _ (by show D≠w.heap.size+1+1+1+1;omega),uZ _ _ _ _ (by show D≠w.heap.size+1+1+1;omega)];exact hK
   have B3:au ((W.setCell ⟨w.heap.size+1+1+1,0,J⟩ (T A9 di.length c9)).setCell ⟨w.heap.size+1+1+1+1,0,J⟩ (G F 0)) (w.heap.size+1+1+1) 322 #[(T A9 di.length c9)]:=(i3.bZ 0 (T A9 di.length c9)).far (p:=⟨w.heap.size+1+1+1+1,0,J⟩) n34 _;have B4:au ((W.setCell ⟨w.heap.size+1+1+1,0,J⟩ (T A9 di.length c9)).setCell ⟨w.heap.size+1+1+1+1,0,J⟩ (G F 0)) (w.heap.size+1+1+1+1) 46 #[G F 0]:=(i4.far (p:=⟨w.heap.size+1+1+1,0,J⟩) (pK n34) (T A9 di.length c9)).bZ 0 (G F 0);have R0:((W.setCell ⟨w.heap.size+1+1+1,0,J⟩ (T A9 di.length c9)).setCell ⟨w.heap.size+1+1+1+1,0,J⟩ (G F 0)).ownsRow w.heap.size 277 3 (T A9 di.length c9) (di).length (cellsOf fE.cells (di)):=by
    have b1:Boxed W (w.heap.size+1+1+1) 322 (T J 0 0):=i3;have b2:Boxed W (w.heap.size+1+1+1+1) 46 (G F 0):=i4;have r1:=hrow.kept (grownBy_setCell' W (w.heap.size+1+1+1) (T A9 di.length c9)) (.inr (pK (b1.not_row aJ hrow)));exact r1.kept (grownBy_setCell' _ (w.heap.size+1+1+1+1) (G F 0)) (.inr (pK (Boxed.not_row (show Boxed _ _ 46 (G F 0) from i4.far (p:=⟨w.heap.size+1+1+1,0,J⟩) (pK n34) (T A9 di.length c9)) aJ r1)))
   have hBx:Below w.heap.size w ((W.setCell ⟨w.heap.size+1+1+1,0,J⟩ (T A9 di.length c9)).setCell ⟨w.heap.size+1+1+1+1,0,J⟩ (G F 0)):=(hB1.setCell (p:=⟨w.heap.size+1+1+1,0,J⟩) (by show w.heap.size<=w.heap.size+1+1+1;omega) _).setCell (p:=⟨w.heap.size+1+1+1+1,0,J⟩) (by show w.heap.size<=w.heap.size+1+1+1+1;omega) _;have HX:=I (cz CF (cz B3 (cz B4 (cz R0 hBx))));clear CF B3 B4 R0 hBx i0 i1 i2 i3 i4 i5 hrow hB1 hv hK n34;gi_wp2;refine⟨by simp,.inl ⟨_,_,rfl,run_takeDeferred HX.out.1,?_⟩⟩;have hDl:W.heap.size<=D\/D<W.heap.size:=O;have C3:(((W.setCell ⟨w.heap.size+1+1+1,0,J⟩ (T A9 di.length c9)).setCell ⟨w.heap.size+1+1+1+1,0,J⟩ (G F 0)).putObj D (.deferred J)).heap[w.heap.size+1+1+1]? =N (.cells #[T A9 di.length c9] 322 (0,0)):=(World.putObj_heap_other O).trans HX.out.2.1;have C4:(((W.setCell ⟨w.heap.size+1+1+1,0,J⟩ (T A9 di.length c9)).setCell ⟨w.heap.size+1+1+1+1,0,J⟩ (G F 0)).putObj D (.deferred J)).heap[w.heap.size+1+1+1+1]? =N (.cells #[G F 0] 46 (0,0)):=(World.putObj_heap_other O).trans HX.out.2.2.1;refine⟨_,abz rfl _ _ _ (T A9 di.length c9) (G F 0) (w.heap.size+1+1+1) (w.heap.size+1+1+1+1) rfl rfl ?_ ?_,_,rfl,?_,?_⟩
   ·simp[loadVar,Tryz.isAgg322,run_load,(show au _ _ _ _ from C3).cell,Result.andThen]
   ·simp[loadVar,Tryz.isAgg46,run_load,(show au _ _ _ _ from C4).cell,Result.andThen]
   ·rw[QL.out];exact ownsRow_putObj HX.out.2.2.2.1 _ HX.out.1 rfl
   ·exact HX.out.2.2.2.2.trans (belowK_b (w:=w) (aC _) _ D _ _ O HX.out.1 rfl rfl)
  case stop=>
   rintro D c pre W hS hD h hK;obtain⟨x,hx,hd⟩:=h;have h3:=HDY.out x (hD x hx);rw[hd]at h3
   cases h3
theorem ai3 (HG:Hid (aB= #[av cur,G F y,G F m,G F p,T cA cl.length cc,G F ro.dU,G F ro.dR,G F ro.dO,G F ro.inventory,G F ro.reserve,G F ro.dV,G F ro.dJ,G F ro.acquired,G F ro.dX,G F ro.dP,G F ro.dN,G F ro.dQ,G F ro.dW,G F ro.difference,G F ro.dL,T eA el.length ec])) (hg:eB w cl cA el eA) (iF:el.length<=12) (L:List aM) (A:Option aG) (cp:Nat) (e:Nat) (he:e<el.length) (hr:Rd w w.heap.size 4 A L.length (cellsOf aM.cells L)) (hw: ∀ r∈L,Wf r.holder/\Wf r.bF/\Wf r.date) (h:aT.valid el.length L=ae):
 aF ak 237 #[az aB,T A L.length cp,G F e] w (RD (wH L el e) w):=by
 have h2:=h;simp only[aT.valid,bR,dm]at h2;have hp: ∀ x∈L,Gr.eZ x.date=ae:=λx hx=>by
  obtain⟨k,hk,rfl⟩:=zG hx;have h3:=tO h2.2.2.2.1 hk;simp only[aT.one,getD_lt L k default hk,aT.yl,bR]at h3;exact h3.1.2.2.2.2.2.1
 have hds: ∀ x∈Sc.days (-25567) L,Gr.eZ x=ae:=λx hx=>by
  rcases fT.1 hx with rfl|hx
  ·decide
  ·have h3:=(Sc.aaI x _).1 (vF.1 hx).1;obtain⟨y,hy,rfl⟩:=iW.1 h3;exact hp y hy
 have hln:(Sc.days (-25567) L).length<=1000:=by
  have h3:=Sc.aev (L.map aM.date);have h4:=FM (λd=>decide ((-25567:Int)<d)) (Sc.wm (L.map aM.date));simp only[Sc.days,gX,pM]at h3 h4 |-;have:=h2.2.2.1;omega
 exact(jM (n:=9)).1 (ai4 aB cur y m p cl cA cc ro el eA ec w lC 9 O trivial trivial trivial trivial trivial trivial rfl HG hg L A cp e he hr
  (λW hr=>jM.2 (OL el.length L A cp W hr hw h)) (λr W hr=>jM.2 (ZB L A cp W hr O (λx hx=>(hw x hx).2.2)))
  (λr d W hg hr hd=>jM.2 (akh aB cur y m p cl cA cc ro el eA ec W HG hg iF L A cp e he d hr hw h hd))
  (λr d W hr hd=>jM.2 (aki L A cp d aB cur y m p cl cA cc ro el eA ec W HG iF e hr hw h hd)) hds hln)
end
end
def uR (t:Int) (x:fE):Bool:=Gr.eZ t&&(decide (x.from_<=t)&&decide (t<x.Dp))
def Ak (l:List fE) (t:Int):fE:=(l.find? (uR t)).getD ⟨0,0,0⟩
def Ez (l:List fE) (t:Int):Int:=if (l.find? (uR t)).isSome then 0 else 2
theorem agK {l:List fE} {t:Int} {k:Nat} (hk:k<l.length) (hno: ∀ j (h:j<k),uR t (l[j]'O)=ag) (hy:uR t l[k]=ae):l.find? (uR t)=N l[k]:=by
 induction l generalizing k with
 |nil=>simp at hk
 |cons x l ih=>
  cases k with
  |zero=>
   simp only[Du]at hy |-;rw[Qe,hy]
  |succ k=>
   have h0:=hno 0 O;simp only[Du]at h0;rw[Qe,h0];exact ih (by simpa using hk) (λj h=>by have:=hno (j+1) O;simpa using this) (by simpa using hy)
theorem agM {l:List fE} {t:Int} (hno: ∀ j (h:j<l.length),uR t l[j]=ag):l.find? (uR t)=J:=by
 rw[Ii];intro x hx;obtain⟨k,hk,rfl⟩:=iK.1 hx;simp[hno k hk]
theorem GZ:(ak.info? 277).map (·.size)=N 3:=ai
section
variable (aB:Array aj) (cur:ByteArray) (y m p:Int) (cl:List Acc) (cA:Option aG) (cc:Nat) (ro:dZ) (el:List aY) (eA:Option aG) (ec:Nat) (w:Z)
def Qp (l:List fE) (t:Int) (w:Z) (en:eG) (w':Z):Prop:=
 en= .returned (bG #[az #[G F (Ak l t).from_,G F (Ak l t).Dp,G F (Ak l t).method],G F (Ez l t)])/\Below w.heap.size w w'
theorem afH (HG:Hid (aB= #[av cur,G F y,G F m,G F p,T cA cl.length cc,G F ro.dU,G F ro.dR,G F ro.dO,G F ro.inventory,G F ro.reserve,G F ro.dV,G F ro.dJ,G F ro.acquired,G F ro.dX,G F ro.dP,G F ro.dN,G F ro.dQ,G F ro.dW,G F ro.difference,G F ro.dL,T eA el.length ec])) (hg:eB w cl cA el eA) (iF:el.length<=12) (L:List aM) (A:Option aG) (cp:Nat) (e:Nat) (he:e<el.length) (t:Int) (hr:Rd w w.heap.size 4 A L.length (cellsOf aM.cells L)) (hw: ∀ r∈L,Wf r.holder/\Wf r.bF/\Wf r.date) (h:aT.valid el.length L=ae):
 aF ak 179 #[az aB,T A L.length cp,G F e,G F t] w (Qp (wH L el e) t w):=by
 have H:=I hg;have HR:=I hr;have KI:=I (λW (hg:eB W cl cA el eA) hr=>ai3 aB cur y m p cl cA cc ro el eA ec W HG hg iF L A cp e he hr hw h);have KD:Hid (∀ W:Z,aF ak 84 #[G F t] W λe w'=>e= bM (aA (Gr.eZ t))/\W=w'):=I (λW=>Cm t W);have hgi:(ak.info? 29).map (·.size)=N aB.size:=by rw[HG.out];exact gy
 have hb:Below w.heap.size w ((w.alloc (U aB 29)).alloc (U #[G F 0,G F 0,G F 0] 277)):=((aD _ _).alloc (aC _) _).alloc aL _;have HB:=I ((au.new w 29 aB).alloc (U #[G F 0,G F 0,G F 0] 277));have HC:=I (eT w (U aB 29) 277 #[G F 0,G F 0,G F 0]);clear hg hr hw h;unfold RD at KI;unfold Qp;generalize wH L el e=l at*;go_enter Tryz.func179,Tryz.ntmps179;go_upto_region 1 with fail
 generalize (w.alloc (U aB 29)).alloc (U #[G F 0,G F 0,G F 0] 277)=w1 at*;go_upto_region 5 with (first
  |(refine cZ 29 (.tmp 4) rfl (w.heap.size) rfl ai (HB).out bQ hgi ?_)
  |(go_at_call 237;refine(KI.out _ (H.out.step hb) (Rd.now HR.out hb)).mono ?_;rintro en w2 ⟨v2,rfl,hr2,ah⟩;have hb2:=ay hb ah;obtain⟨A2,c2,rfl,hd2⟩:=Rd.dE hr2;have H2:=I hd2;have mf:=I (HC.out.step ah);have hll:l.length<=bK:=(by rcases hr2.2 with ⟨_,h0⟩|⟨_,_,_,_,_,_,h8,h9,_⟩<;>omega);unfold bK at hll;clear hr2 hd2 ah))
 clear KI hb HB HC;go_loopw [27] (λs wr=> ∃ k:Nat,k<=l.length/\s= G F k/\(∀ j (h:j<k) (h2:j<l.length),uR t (l[j]'h2)=ag)/\Below w2.heap.size w2 wr) (λs _=>l.length - (intOf s).toNat)
 case atStart=>exact⟨0,lq _,rfl,λj h=>O,aD _ _⟩
 case round=>
  obtain⟨k,hk,rfl,hno,hq⟩:=hrel;have HN:=I hno;clear hno;have hbw:=ay hb2 hq;have DT:=I (mf.out.step hq);have hs2:=hq.size;have hlt1:=DT.out.lt
  by_cases hlt:k<l.length
  ·obtain⟨b,o,hA,aX,f0,f1,f2⟩:=fE.at_ (Rd.now H2.out hq) hlt;subst hA;have HY:Hid (uR t l[k]=ae->Ak l t=l[k]/\Ez l t=0):=I (λhy=>by
    have:=agK hlt (λj h=>HN.out j h O) hy;unfold Ak Ez;rw[this];exact⟨rfl,rfl⟩)
   have eH:Hid (uR t l[k]=ag-> ∀ j (h:j<k+1) (h2:j<l.length),uR t (l[j]'h2)=ag):=I (λhq j h h1=>by
    by_cases e:j=k
    ·subst e;exact hq
    ·exact HN.out j O h1)
   have HI:Hid (uR t l[k]=(Gr.eZ t&&(decide (l[k].from_<=t)&&decide (t<l[k].Dp)))):=I rfl;have Az:Below w2.heap.size w2 (wr.alloc (U #[G F l[k].from_,G F l[k].Dp,G F l[k].method] 277)):=hq.alloc hq.size _;generalize l[k]=x at*;obtain⟨xf,xt,xm⟩:=x;dsimp only at*;have VZ:=I (DT.out.alloc (U #[G F xf,G F xt,G F xm] 277))
   cases hc:uR t ⟨xf,xt,xm⟩
   ·have BJ:=I Az;have jm:=I (eH.out hc);rw[hc]at HI;have hI:=HI.out;clear hc Az;generalize Gr.eZ t=dv at*
    cases dv
    ·clear hI;go_wp2_with (go_at_call 84;refine(KD.out _).mono ?_;rintro en w3 ⟨rfl,rfl⟩);go_roundw
     case rel=>exact⟨k+1,O,by go_num,jm.out,BJ.out⟩
     case measure=>simp[intOf];omega
    ·by_cases h1:xf<=t
     ·by_cases h2:t<xt
      ·simp[h1,h2]at hI
      ·clear hI;go_wp2_with (go_at_call 84;refine(KD.out _).mono ?_;rintro en w3 ⟨rfl,rfl⟩);go_roundw
       case rel=>exact⟨k+1,O,by go_num,jm.out,BJ.out⟩
       case measure=>simp[intOf];omega
     ·clear hI;go_wp2_with (go_at_call 84;refine(KD.out _).mono ?_;rintro en w3 ⟨rfl,rfl⟩);go_roundw
      case rel=>exact⟨k+1,O,by go_num,jm.out,BJ.out⟩
      case measure=>simp[intOf];omega
   ·have Xm:=I (HY.out hc);rw[hc]at HI;have hI:=HI.out.symm;clear hc;simp only[bR,dm]at hI;obtain⟨h0,h1,h2⟩:=hI;rw[h0]at KD;clear h0;have HZ:Hid (au ((wr.alloc (U #[G F xf,G F xt,G F xm] 277)).setRow (w.heap.size+1) #[G F xf,G F xt,G F xm]) (w.heap.size+1) 277 #[G F xf,G F xt,G F xm]):=I (mQ VZ.out _);go_upto_region 8 with (go_at_call 84;refine(KD.out _).mono ?_;rintro en w3 ⟨rfl,rfl⟩)
    go_wp2_with (refine oQ rfl 277 (.tmp 8) (.tmp 45) rfl (w.heap.size+1) #[G F xf,G F xt,G F xm] rfl rfl 277 #[G F 0,G F 0,G F 0] VZ.out GZ rfl ai ?_);refine iq (qY Tryz.results179 _ _ (w.heap.size+1) 277 #[G F xf,G F xt,G F xm] rfl HZ.out Tryz.underlying277 GZ) rfl ?_;exact⟨by rw[Xm.out.1,Xm.out.2];rfl,oJ (hb2.trans (Az.mono (by have:=hb2.size;omega))) O⟩
  ·have HE:Hid (Ak l t=⟨0,0,0⟩/\Ez l t=2):=I (by
    have:=agM (l:=l) (t:=t) (λj h=>HN.out j O h);unfold Ak Ez;rw[this];exact⟨rfl,rfl⟩)
   have HZ:Hid (au (wr.setRow (w.heap.size+1) #[G F 0,G F 0,G F 0]) (w.heap.size+1) 277 #[G F 0,G F 0,G F 0]):=I (mQ DT.out _);go_wp2_with (refine oQ rfl 277 (.tmp 8) (.tmp 47) rfl (w.heap.size+1) #[G F 0,G F 0,G F 0] rfl rfl 277 #[G F 0,G F 0,G F 0] DT.out GZ rfl ai ?_);refine iq (qY Tryz.results179 _ _ (w.heap.size+1) 277 #[G F 0,G F 0,G F 0] rfl HZ.out Tryz.underlying277 GZ) rfl ?_;exact⟨by rw[HE.out.1,HE.out.2];rfl,oJ (hb2.trans (hq.mono (by have:=hb2.size;omega))) O⟩
end
end Go.Proofs.YtbedbfdhfokifaaGreat
