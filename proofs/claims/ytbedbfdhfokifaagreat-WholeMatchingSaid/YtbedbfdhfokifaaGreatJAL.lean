/- Part of the proof of WholeMatching. -/
import Derived.Test.YtbedbfdhfokifaaGreatJAE
import Derived.Test.YtbedbfdhfokifaaGreatJAH
import Derived.Laws.IdiomStrings
import Derived.Deep.RegionWith
namespace Go.Proofs.YtbedbfdhfokifaaGreat
set_option maxRecDepth 100000
set_option maxHeartbeats 16000000
set_option linter.unusedVariables false
set_option linter.unusedSimpArgs false
open _root_.Bool renaming true->ae,false->ag
open Go renaming World->Z,Calls->aF
open Go.Ending renaming returned->bM
open Go.IntKind renaming i64->F
open Go.Proofs.Tryz renaming prog->ak
open Go.Value renaming int->G,bool->aA,agg->az,tuple->bG
open Go.RowKit
theorem Hl (n:Int) (w:Z) (h1: -25567<=n) (h2:n<=84005):
 aF ak 276 #[G F n] w λe w'=>e= bM (bG #[G F (Dt.cY n),G F (Dt.cM n),G F (Dt.cD n),G F 0])/\w=w':=by
 obtain⟨y1,y2,y3,y4⟩:=Dt.Sb n h1 h2;obtain⟨m1,m2,m3,m4⟩:=Dt.X9 n h1 h2;have hD:Dt.cD n=n - Dt.eD (Dt.cY n) - Dt.gM (Dt.lp (Dt.cY n)) (Dt.cM n)+1:=rfl;rw[hD];clear hD;have l:=Dt.uo (Dt.cY n);generalize Dt.cY n=Y at*;generalize Dt.cM n=M at*;go_enter Tryz.func276,Tryz.ntmps276;go_wp2_with (go_at_call 55;refine(anN _ _ h1 h2).mono ?_;rintro e w' ⟨rfl,rfl⟩);go_loop [6,8] (λt r=> ∃ y:Int,1900<=y/\y<=Y/\t= G F y/\r= G F (n - Dt.eD y)) (λt _=>(Y - intOf t).toNat)
 case atStart=>exact⟨1900,O,O,rfl,by rw[Dt.JN];go_num⟩
 case round=>
  obtain⟨y,ya,yb,rfl,rfl⟩:=hrel;have db:=Dt.N9 y O O;have s:=Dt.Cn y
  by_cases hlt:y<Y
  ·have hm:=Dt.EB (y+1) Y O;have hle:Dt.eD (y+1)<=n:=O
   by_cases hl:Dt.jy y=ae
   ·have e1:Dt.lp y=1:=by simp[Dt.lp,hl]
    have h3:366<=n - Dt.eD y:=O;have HS:=I s;have HE:=I e1;have HL:=I hl;clear s e1 hl hle hm;go_wp2_with (go_at_call 296;refine(Fu _ _ O O).mono ?_;rintro e w' ⟨rfl,rfl⟩;rw[HL.out]);go_round
    case rel=>exact⟨y+1,O,O,by go_num,by rw[HS.out,HE.out];go_num⟩
    case measure=>simp[intOf];omega
   ·have hl':Dt.jy y=ag:=by simpa using hl
    have e1:Dt.lp y=0:=by simp[Dt.lp,hl']
    have h3:365<=n - Dt.eD y:=O;have HS:=I s;have HE:=I e1;have HL:=I hl';clear s e1 hl hl' hle hm;go_wp2_with (go_at_call 296;refine(Fu _ _ O O).mono ?_;rintro e w' ⟨rfl,rfl⟩;rw[HL.out]);go_round
    case rel=>exact⟨y+1,O,O,by go_num,by rw[HS.out,HE.out];go_num⟩
    case measure=>simp[intOf];omega
  ·obtain rfl:y=Y:=O;have mb:=Dt.AP (Dt.lp y) M O O;have key: ∀ b:Bool,Dt.jy y=b->(if b then n - Dt.eD y<366 else n - Dt.eD y<365):=by
    intro b hb
    cases b
    ·have e1:Dt.lp y=0:=by simp[Dt.lp,hb]
     simp only[zI,zJ];omega
    ·have e1:Dt.lp y=1:=by simp[Dt.lp,hb]
     simp only[sV];omega
   have K:=key _ rfl;clear key s hlt
   cases hl:Dt.jy y
   all_goals
    rw[hl]at K;simp only[zI,zJ,sV]at K;have HL:=I hl;clear hl;go_wp2_with (go_at_call 296;refine(Fu _ _ O O).mono ?_;rintro e w' ⟨rfl,rfl⟩;rw[HL.out]);go_loop [7,8] (λk r=> ∃ m:Int,1<=m/\m<=M/\k= G F m/\r= G F (n - Dt.eD y - Dt.gM (Dt.lp y) m)) (λk _=>(M - intOf k).toNat)
    case atStart=>exact⟨1,O,O,rfl,by rw[Dt.E8];go_num⟩
    case round=>
     obtain⟨m,ma,mb',rfl,rfl⟩:=hrel;have c:=Dt.AP (Dt.lp y) m O O;have dj:=Dt.zb y m;have HD:=I (Dt.qO y m O O O O)
     by_cases hlt2:m<M
     ·have cs:=I (Dt.E9 (Dt.lp y) m O O);have OI:=Dt.OT (Dt.lp y) m M O O O hlt2 O;rw[<- HD.out]at OI;have hge:Dt.days y m<=n - Dt.eD y - Dt.gM (Dt.lp y) m:=O;go_wp2_with (go_at_call 277;refine(Fp _ _ _).mono ?_;rintro e w2 ⟨rfl,rfl⟩);go_round
      case rel=>exact⟨m+1,O,O,by go_num,by rw[cs.out,<- HD.out];go_num⟩
      case measure=>simp[intOf];omega
     ·obtain rfl:m=M:=O;rw[<- HD.out]at m4;have hlt3: ¬ Dt.days y m<=n - Dt.eD y - Dt.gM (Dt.lp y) m:=O;go_wp2_with (go_at_call 277;refine(Fp _ _ _).mono ?_;rintro e w2 ⟨rfl,rfl⟩);refine iq (Pn rfl _ _ _) rfl ?_;exact⟨rfl,rfl⟩
theorem anb (y m d:Int) (w:Z) (h:Dt.kG y m d=ag):
 aF ak 272 #[G F y,G F m,G F d] w λe w'=>e= bM (bG #[G F 0,G F 2])/\w=w':=by
 have hv: ¬ (1<=d/\d<=Dt.days y m):=by rw[<- Dt.uw,h];simp
 clear h
 by_cases h1:d<1
 ·clear hv;go_enter Tryz.func272,Tryz.ntmps272;go_wp2_with fail;go_ret2;exact⟨rfl,rfl⟩
 ·have h2:Dt.days y m<d:=O;clear hv;go_enter Tryz.func272,Tryz.ntmps272;go_wp2_with (go_at_call 277;refine(Fp _ _ _).mono ?_;rintro e w1 ⟨rfl,rfl⟩);go_ret2;exact⟨rfl,rfl⟩
theorem abK (y m d:Int) (w:Z) (h:Dt.kG y m d=ae):
 aF ak 272 #[G F y,G F m,G F d] w λe w'=>e= bM (bG #[G F (Dt.num y m d),G F 0])/\w=w':=by
 have hv:=(Dt.uw y m d).1 h;obtain⟨a1,a2,a3,a4,a5,a6,a7⟩:=Dt.Hw y m d h;obtain⟨v1,v2⟩:=hv;have v3:=Dt.zb y m;have l:=Dt.uo y;have HN:Hid (Dt.num y m d=Dt.eD y+Dt.gM (Dt.lp y) m+d - 1):=I rfl;clear h a6;go_enter Tryz.func272,Tryz.ntmps272;go_wp2_with (go_at_call 277;refine(Fp _ _ _).mono ?_;rintro e w1 ⟨rfl,rfl⟩);go_loop [8,9] (λt k=> ∃ j:Int,1900<=j/\j<=y/\k= G F j/\t= G F (Dt.eD j)) (λ_ k=>(y - intOf k).toNat)
 case atStart=>exact⟨1900,O,O,rfl,by rw[Dt.JN]⟩
 case round=>
  obtain⟨j,hj1,hj2,rfl,rfl⟩:=hrel;have db:=Dt.N9 j O O
  by_cases hlt:j<y
  ·have HS:=I (Dt.Cn j)
   cases hl:Dt.jy j
   ·have HE:Hid (Dt.lp j=0):=I (by simp[Dt.lp,hl]);have HL:=I hl;clear hl;go_wp2_with (go_at_call 296;refine(Fu _ _ O O).mono ?_;rintro e w' ⟨rfl,rfl⟩;rw[HL.out]);go_round
    case rel=>exact⟨j+1,O,O,by go_num,by rw[HS.out,HE.out];go_num⟩
    case measure=>simp[intOf];omega
   ·have HE:Hid (Dt.lp j=1):=I (by simp[Dt.lp,hl]);have HL:=I hl;clear hl;go_wp2_with (go_at_call 296;refine(Fu _ _ O O).mono ?_;rintro e w' ⟨rfl,rfl⟩;rw[HL.out]);go_round
    case rel=>exact⟨j+1,O,O,by go_num,by rw[HS.out,HE.out]⟩
    case measure=>simp[intOf];omega
  ·obtain rfl:j=y:=O;go_wp2_with fail;go_loop [8,10] (λt k=> ∃ i:Int,1<=i/\i<=m/\k= G F i/\t= G F (Dt.eD j+Dt.gM (Dt.lp j) i)) (λ_ k=>(m - intOf k).toNat)
   case atStart=>exact⟨1,O,O,rfl,by rw[Dt.E8];go_num⟩
   case round=>
    obtain⟨i,hi1,hi2,rfl,rfl⟩:=hrel;have c:=Dt.AP (Dt.lp j) i O O
    by_cases hlt2:i<m
    ·have cs:=I (Dt.E9 (Dt.lp j) i O O);have HD:=I (Dt.qO j i O O O O);have dj:=Dt.zb j i;go_wp2_with (go_at_call 277;refine(Fp _ _ _).mono ?_;rintro e w2 ⟨rfl,rfl⟩);go_round
     case rel=>exact⟨i+1,O,O,by go_num,by rw[cs.out,<- HD.out];go_num⟩
     case measure=>simp[intOf];omega
    ·obtain rfl:i=m:=O;go_wp2_with fail;go_ret2;exact⟨by rw[HN.out];rfl,rfl⟩
theorem agb (y m d:Int) (w:Z) (hd1: -9223372036854775808<=d) (hd2:d<=9223372036854775807):
 aF ak 130 #[G F y,G F m,G F d] w λe w'=>e= .returned (bG #[G F (Dt.Hd y m d),G F (Dt.Ha y m d)])/\Below w.heap.size w w':=by
 unfold Dt.Hd Dt.Ha
 cases h:Dt.kG y m d
 ·exact akS y m d w h hd1 hd2
 ·exact akT y m d w h
theorem Dt.aei (n k:Int) (h:Dt.nZ n=ae) (hk:k< -3600\/3600<k):Dt.qN n k=ag:=by
 have c:=Dt.JK n h;rw[<- qo];unfold Dt.qN Dt.oN;simp only[bR,dm];omega
theorem Dt.aek (n k:Int) (h:Dt.nZ n=ag):Dt.qN n k=ag:=by unfold Dt.qN;rw[h];rfl
theorem amm (n k:Int) (w:Z):
 aF ak 273 #[G F n,G F k] w λe w'=>e= bM (bG #[G F (Dt.Er n k),G F (Dt.Ep n k)])/\w=w':=by
 cases hD:Dt.nZ n
 ·have hr:=(Dt.aah n).1 hD;have e:Dt.qN n k=ag:=Dt.aek n k hD;unfold Dt.Er Dt.Ep;rw[e];have H:=I hr;clear hr hD e;go_enter Iq,Ir;go_wp2_with (go_at_call 276;refine(amC _ _ H.out).mono ?_;rintro e w' ⟨rfl,rfl⟩);go_ret2;exact⟨rfl,rfl⟩
 ·have c:=Dt.JK n hD;obtain⟨r1,r2⟩:=(Dt.AJ n).1 hD
  by_cases hk:k< -3600\/3600<k
  ·have e:Dt.qN n k=ag:=Dt.aei n k hD O;unfold Dt.Er Dt.Ep;rw[e];clear e hD
   rcases hk with hk|hk
   ·go_enter Iq,Ir;go_wp2_with (go_at_call 276;refine(Hl _ _ r1 r2).mono ?_;rintro e w1 ⟨rfl,rfl⟩);go_ret2;exact⟨rfl,rfl⟩
   ·have h2: ¬ k< -3600:=O;go_enter Iq,Ir;go_wp2_with (go_at_call 276;refine(Hl _ _ r1 r2).mono ?_;rintro e w1 ⟨rfl,rfl⟩);go_ret2;exact⟨rfl,rfl⟩
  ·have k1: -3600<=k:=O;have k2:k<=3600:=O;have hm:Dt.oN n k=12*Dt.cY n+Dt.cM n - 1+k:=rfl
   by_cases hy:22800<=12*Dt.cY n+Dt.cM n - 1+k/\12*Dt.cY n+Dt.cM n - 1+k<=26399
   ·have ha:Dt.qN n k=ae:=by
     unfold Dt.qN;rw[hD];simp only[qC,bR,dm];rw[hm];exact hy
    have v:=Dt.ael n k ha;unfold Dt.Er Dt.Ep Dt.addN;rw[ha];rw[hm]at v |-;have H:=I (show ∀ x,x=min (Dt.cD n) (Dt.days ((12*Dt.cY n+Dt.cM n - 1+k) / 12) ((12*Dt.cY n+Dt.cM n - 1+k) % 12+1))->Dt.kG ((12*Dt.cY n+Dt.cM n - 1+k) / 12) ((12*Dt.cY n+Dt.cM n - 1+k) % 12+1) x=ae from λx hx=>by rw[hx];exact v);obtain⟨y1,y2⟩:=hy;obtain⟨c1,c2,c3,c4,c5,c6,c7⟩:=c;clear c6 ha v hm hD hk;go_enter Iq,Ir;go_wp2_with (first
     |(go_at_call 276;refine(Hl _ _ r1 r2).mono ?_;rintro e w1 ⟨rfl,rfl⟩)
     |(go_at_call 277;refine(Fp _ _ _).mono ?_;rintro e w2 ⟨rfl,rfl⟩)
     |(go_at_call 272;refine(abK _ _ _ _ (H.out _ O)).mono ?_;rintro e w3 ⟨rfl,rfl⟩))
    all_goals
     go_ret2;exact⟨abA ⟨by congr 1<;>omega,rfl⟩,rfl⟩
   ·have ha:Dt.qN n k=ag:=by
     unfold Dt.qN;rw[hD,<- qo];simp only[qC,bR,dm];rw[hm];exact hy
    unfold Dt.Er Dt.Ep;rw[ha];obtain⟨c1,c2,c3,c4,c5,c6,c7⟩:=c;clear c6 ha hm hD hk
    by_cases hy1:12*Dt.cY n+Dt.cM n - 1+k<22800
    ·clear hy;go_enter Iq,Ir;go_wp2_with (go_at_call 276;refine(Hl _ _ r1 r2).mono ?_;rintro e w1 ⟨rfl,rfl⟩);go_ret2;exact⟨rfl,rfl⟩
    ·have hy2:26399<12*Dt.cY n+Dt.cM n - 1+k:=O;clear hy;go_enter Iq,Ir;go_wp2_with (go_at_call 276;refine(Hl _ _ r1 r2).mono ?_;rintro e w1 ⟨rfl,rfl⟩);go_ret2;exact⟨rfl,rfl⟩
theorem NY (n:Int) (w:Z) (h:Hid (Dt.nZ n=ae)):
 aF ak 44 #[G F n] w λe w'=>e= .returned (bG #[G F (Dt.cY n),G F (Dt.cM n),G F (Dt.cD n),G F 0])/\Below w.heap.size w w':=
 afe n w ((Dt.AJ n).1 h.out).1 ((Dt.AJ n).1 h.out).2
theorem akR (y m d a e:Int) (w:Z) (hd1: -9223372036854775808<=d) (hd2:d<=9223372036854775807) (h1:Hid (Dt.Hd y m d=a)) (h2:Hid (Dt.Ha y m d=e)):
 aF ak 130 #[G F y,G F m,G F d] w λr w'=>r= .returned (bG #[G F a,G F e])/\Below w.heap.size w w':=by
 have:=agb y m d w hd1 hd2;rw[h1.out,h2.out]at this;exact this
theorem Yd (Y M P p:Int) (w:Z) (y0:1900<=Y) (y1:Y<=2199) (m0:1<=M) (m1:M<=12) (p0: -200<=p) (p1:p<=200):
 aF ak 83 #[az #[G F Y,G F M,G F P],G F p] w λe w'=>e= .returned (bG #[G F (ax.Am (ax.tm Y M p)),G F (ax.uN (ax.tm Y M p))])/\Below w.heap.size w w':=by
 have k:=ax.akQ (ax.tm Y M p) (by unfold ax.tm;omega);have H1:Hid (Dt.Hd ((12*Y+M - 1+p) / 12) ((12*Y+M - 1+p) % 12+1) 1=ax.Am (ax.tm Y M p)):=I k.1;have H2:Hid (Dt.Ha ((12*Y+M - 1+p) / 12) ((12*Y+M - 1+p) % 12+1) 1=ax.uN (ax.tm Y M p)):=I k.2;clear k;have hb:=aD w.heap.size w;go_enter Tryz.func83,Tryz.ntmps83;go_wp2_with fail;refine(akR _ _ 1 _ _ _ O O H1 H2).mono ?_;rintro e w2 ⟨rfl,hb2⟩;obtain⟨hc2,-⟩:=gq hb2;have hz2:=hb2.size;(try simp at hz2);(try have hy2:w.heap.size<w2.heap.size:=by omega);replace hb:=fM (w:=w) hb2 bC;clear hb2;go_wp2_with fail;go_ret2;exact⟨rfl,hb⟩
theorem Cb (Y M P:Int) (w:Z):
 aF ak 122 #[az #[G F Y,G F M,G F P]] w λe w'=>e= .returned (aA (ax.ok Y M P))/\Below w.heap.size w w':=by
 by_cases h:1<=M/\M<=12/\1<=P/\P<=120/\1900<=Y/\Y<=2199
 ·obtain⟨m0,m1,p0,p1,y0,y1⟩:=h;have HE:Hid (∀ e,e=ax.uN (ax.tm Y M (P - 1))->(e==0)=ax.ok Y M P):=by
   refine I (λe he=> ?_);rw[he];unfold ax.uN ax.wM ax.ok ax.mq;have:22800<=ax.tm Y M (P - 1):=by unfold ax.tm;omega
   by_cases h2:ax.tm Y M (P - 1)<=26399
   ·simp[*]
   ·simp[*]
  have hb:=aD w.heap.size w;go_enter FO,FP;go_wp2_with fail;refine(Yd Y M P _ _ y0 y1 m0 m1 O O).mono ?_;rintro e w2 ⟨rfl,hb2⟩;obtain⟨hc2,-⟩:=gq hb2;have hz2:=hb2.size;(try simp at hz2);(try have hy2:w.heap.size<w2.heap.size:=by omega);replace hb:=fM (w:=w) hb2 bC;clear hb2;go_wp2_with fail;go_ret;exact⟨gz (HE.out _ rfl),hb⟩
 ·have HF:Hid (ax.ok Y M P=ag):=I ((ax.UH Y M P).2 (by unfold ax.mq;omega));have hb:=aD w.heap.size w
  by_cases c1:M<1
  ·clear h;go_enter FO,FP;go_wp2_with fail;go_ret;exact⟨by rw[HF.out];rfl,bC⟩
  by_cases c2:12<M
  ·clear h;go_enter FO,FP;go_wp2_with fail;go_ret;exact⟨by rw[HF.out];rfl,bC⟩
  by_cases c3:P<1
  ·clear h;go_enter FO,FP;go_wp2_with fail;go_ret;exact⟨by rw[HF.out];rfl,bC⟩
  by_cases c4:120<P
  ·clear h;go_enter FO,FP;go_wp2_with fail;go_ret;exact⟨by rw[HF.out];rfl,bC⟩
  by_cases c5:Y<1900
  ·clear h;go_enter FO,FP;go_wp2_with fail;go_ret;exact⟨by rw[HF.out];rfl,bC⟩
  have c6:2199<Y:=O;clear h;go_enter FO,FP;go_wp2_with fail;go_ret;exact⟨by rw[HF.out];rfl,bC⟩
theorem Ah (Y M P:Int) (b:Bool) (w:Z) (h:Hid (ax.ok Y M P=b)):
 aF ak 122 #[az #[G F Y,G F M,G F P]] w λe w'=>e= .returned (aA b)/\Below w.heap.size w w':=by
 have:=Cb Y M P w;rw[h.out]at this;exact this
theorem Sg (Y M P p:Int) (w:Z):
 aF ak 82 #[az #[G F Y,G F M,G F P],G F p] w λe w'=>e= .returned (G F (ax.bJ Y M P p))/\Below w.heap.size w w':=by
 have hb:=aD w.heap.size w
 cases h:ax.ok Y M P
 ·have HF:Hid (ax.bJ Y M P p=1):=I (by unfold ax.bJ;rw[h];rfl);have H:=I h;clear h;go_enter Tryz.func82,Tryz.ntmps82;go_wp2_with fail;refine(Ah _ _ _ _ _ H).mono ?_;rintro e w2 ⟨rfl,hb2⟩;obtain⟨hc2,-⟩:=gq hb2;have hz2:=hb2.size;(try simp at hz2);(try have hy2:w.heap.size<w2.heap.size:=by omega);replace hb:=fM (w:=w) hb2 bC;clear hb2;go_wp2_with fail;go_ret;exact⟨by rw[HF.out];rfl,hb⟩
 ·have H:=I h
  by_cases c1:p<0
  ·have HF:Hid (ax.bJ Y M P p=2):=I (by unfold ax.bJ;rw[h,bB rfl,bE O]);clear h;go_enter Tryz.func82,Tryz.ntmps82;go_wp2_with fail;refine(Ah _ _ _ _ _ H).mono ?_;rintro e w2 ⟨rfl,hb2⟩;obtain⟨hc2,-⟩:=gq hb2;have hz2:=hb2.size;(try simp at hz2);(try have hy2:w.heap.size<w2.heap.size:=by omega);replace hb:=fM (w:=w) hb2 bC;clear hb2;go_wp2_with fail;go_ret;exact⟨by rw[HF.out];rfl,hb⟩
  by_cases c2:P<=p
  ·have HF:Hid (ax.bJ Y M P p=2):=I (by unfold ax.bJ;rw[h,bB rfl,bE O]);clear h;go_enter Tryz.func82,Tryz.ntmps82;go_wp2_with fail;refine(Ah _ _ _ _ _ H).mono ?_;rintro e w2 ⟨rfl,hb2⟩;obtain⟨hc2,-⟩:=gq hb2;have hz2:=hb2.size;(try simp at hz2);(try have hy2:w.heap.size<w2.heap.size:=by omega);replace hb:=fM (w:=w) hb2 bC;clear hb2;go_wp2_with fail;go_ret;exact⟨by rw[HF.out];rfl,hb⟩
  ·have HF:Hid (ax.bJ Y M P p=0):=I (by unfold ax.bJ;rw[h,bB rfl,bB O]);clear h;go_enter Tryz.func82,Tryz.ntmps82;go_wp2_with fail;refine(Ah _ _ _ _ _ H).mono ?_;rintro e w2 ⟨rfl,hb2⟩;obtain⟨hc2,-⟩:=gq hb2;have hz2:=hb2.size;(try simp at hz2);(try have hy2:w.heap.size<w2.heap.size:=by omega);replace hb:=fM (w:=w) hb2 bC;clear hb2;go_wp2_with fail;go_ret;exact⟨by rw[HF.out];rfl,hb⟩
theorem Yc (Y M P p x:Int) (w:Z) (h:Hid (ax.bJ Y M P p=x)):
 aF ak 82 #[az #[G F Y,G F M,G F P],G F p] w λe w'=>e= .returned (G F x)/\Below w.heap.size w w':=by
 have:=Sg Y M P p w;rw[h.out]at this;exact this
theorem Ye (Y M P p:Int) (w:Z) (h:ax.mq Y M P) (h0:0<=p) (h1:p<P):
 aF ak 83 #[az #[G F Y,G F M,G F P],G F p] w λe w'=>e= .returned (bG #[G F (ax.fd (ax.tm Y M p)),G F 0])/\Below w.heap.size w w':=by
 have t:=ax.yu Y M P p h h0 h1;have hm:ax.wM (ax.tm Y M p)=ae:=(ax.Lj _).2 t;unfold ax.mq at h;have:=Yd Y M P p w O O O O O O;unfold ax.Am ax.uN at this;rw[hm]at this;exact this
theorem Sd (Y M P p:Int) (w:Z):
 aF ak 43 #[az #[G F Y,G F M,G F P],G F p] w λe w'=>e= .returned (bG #[G F (ax.gW Y M P p),G F (ax.bJ Y M P p)])/\Below w.heap.size w w':=by
 have hb:=aD w.heap.size w
 by_cases h:ax.bJ Y M P p=0
 ·obtain⟨k0,k1,k2⟩:=(ax.Aj Y M P p).1 h;have HV:Hid (ax.gW Y M P p=ax.fd (ax.tm Y M p)):=I (by unfold ax.gW;rw[bB h]);have H:=I h;have HK:=I k0;clear h k0;go_enter Tryz.func43,Tryz.ntmps43;go_wp2_with fail;refine(Yc _ _ _ _ _ _ H).mono ?_;rintro e w2 ⟨rfl,hb2⟩;obtain⟨hc2,-⟩:=gq hb2;have hz2:=hb2.size;(try simp at hz2);(try have hy2:w.heap.size<w2.heap.size:=by omega);replace hb:=fM (w:=w) hb2 bC;clear hb2;go_wp2_with fail;refine(Ye _ _ _ _ _ HK.out k1 k2).mono ?_;rintro e w2 ⟨rfl,hb2⟩;obtain⟨hc2,-⟩:=gq hb2;have hz2:=hb2.size;(try simp at hz2);(try have hy2:w.heap.size<w2.heap.size:=by omega);replace hb:=fM (w:=w) hb2 bC;clear hb2;go_wp2_with fail;go_ret2;exact⟨by rw[HV.out,H.out];rfl,hb⟩
 ·have HV:Hid (ax.gW Y M P p=0):=I (by unfold ax.gW;rw[bE h]);have h':(ax.bJ Y M P p !=0)=ae:=by rw[Mw];exact h
  clear h;go_enter Tryz.func43,Tryz.ntmps43;go_wp2_with fail;refine(Sg _ _ _ _ _).mono ?_;rintro e w2 ⟨rfl,hb2⟩;obtain⟨hc2,-⟩:=gq hb2;have hz2:=hb2.size;(try simp at hz2);(try have hy2:w.heap.size<w2.heap.size:=by omega);replace hb:=fM (w:=w) hb2 bC;clear hb2;go_wp2_with fail;go_ret2;exact⟨by rw[HV.out];rfl,hb⟩
theorem aeZ (Y M P p v x:Int) (w:Z) (h:Hid (ax.gW Y M P p=v)) (h2:Hid (ax.bJ Y M P p=x)):
 aF ak 43 #[az #[G F Y,G F M,G F P],G F p] w λe w'=>e= .returned (bG #[G F v,G F x])/\Below w.heap.size w w':=by
 have:=Sd Y M P p w;rw[h.out,h2.out]at this;exact this
theorem Gu (Y M P p:Int) (w:Z):
 aF ak 15 #[az #[G F Y,G F M,G F P],G F p] w λe w'=>e= .returned (bG #[G F (ax.cB Y M P p),G F (ax.bJ Y M P p)])/\Below w.heap.size w w':=by
 have hb:=aD w.heap.size w
 by_cases h:ax.bJ Y M P p=0
 ·obtain⟨k0,k1,k2⟩:=(ax.Aj Y M P p).1 h;obtain⟨t0,t1⟩:=ax.yu Y M P p k0 k1 k2;have HV:Hid (ax.cB Y M P p=ax.ld (ax.tm Y M p)):=I (by unfold ax.cB;rw[bB h]);have HF:Hid (ax.gW Y M P p=ax.fd (ax.tm Y M p)):=I (by unfold ax.gW;rw[bB h]);obtain⟨c1,c2,c3,c4⟩:=ax.Yh (ax.tm Y M p) t0 t1;have C1:=I c1;have C2:=I c2;have C3:=I c3;have H:=I h;have b1:=ax.YC (ax.tm Y M p) t0 t1;have b2:=Dt.zb (ax.tm Y M p / 12) (ax.tm Y M p % 12+1);clear h k0 c1 c2 c3 c4;go_enter Tryz.func15,Tryz.ntmps15;go_wp2_with fail;refine(aeZ _ _ _ _ _ _ _ HF H).mono ?_;rintro e w2 ⟨rfl,hb2⟩;obtain⟨hc2,-⟩:=gq hb2;have hz2:=hb2.size;(try simp at hz2);(try have hy2:w.heap.size<w2.heap.size:=by omega);replace hb:=fM (w:=w) hb2 bC;clear hb2;go_wp2_with fail;refine(NY _ _ C1).mono ?_;rw[C2.out,C3.out];rintro e w2 ⟨rfl,hb2⟩;replace hb:=fM hb2 bC;clear hb2;go_wp2_with fail;refine(Gv _ _ _).mono ?_;rintro e w2 ⟨rfl,hb2⟩;obtain⟨hc2,-⟩:=gq hb2;have hz2:=hb2.size;(try simp at hz2);(try have hy2:w.heap.size<w2.heap.size:=by omega);replace hb:=fM (w:=w) hb2 bC;clear hb2;go_wp2_with fail;go_ret2;exact⟨by rw[HV.out,H.out];rfl,hb⟩
 ·have HV:Hid (ax.cB Y M P p=0):=I (by unfold ax.cB;rw[bE h]);have h':(ax.bJ Y M P p !=0)=ae:=by rw[Mw];exact h
  clear h;go_enter Tryz.func15,Tryz.ntmps15;go_wp2_with fail;refine(Sd _ _ _ _ _).mono ?_;rintro e w2 ⟨rfl,hb2⟩;obtain⟨hc2,-⟩:=gq hb2;have hz2:=hb2.size;(try simp at hz2);(try have hy2:w.heap.size<w2.heap.size:=by omega);replace hb:=fM (w:=w) hb2 bC;clear hb2;go_wp2_with fail;go_ret2;exact⟨by rw[HV.out];rfl,hb⟩
theorem Ya (Y M P p:Int) (w:Z):
 aF ak 78 #[az #[G F Y,G F M,G F P],G F p] w λe w'=>e= .returned (bG #[G F (ax.pG Y M P p),G F (ax.bJ Y M P p)])/\Below w.heap.size w w':=by
 have hb:=aD w.heap.size w
 by_cases h:ax.bJ Y M P p=0
 ·obtain⟨k0,k1,k2⟩:=(ax.Aj Y M P p).1 h;have HV:Hid (ax.pG Y M P p=ax.fd (ax.tm Y M (p - p % 12))):=I (by unfold ax.pG;rw[bB h]);have H:=I h;have HK:=I k0;have k3:P<=120:=by unfold ax.mq at k0;omega
  clear h k0;go_enter Tryz.func78,Tryz.ntmps78;go_wp2_with fail;refine(Yc _ _ _ _ _ _ H).mono ?_;rintro e w2 ⟨rfl,hb2⟩;obtain⟨hc2,-⟩:=gq hb2;have hz2:=hb2.size;(try simp at hz2);(try have hy2:w.heap.size<w2.heap.size:=by omega);replace hb:=fM (w:=w) hb2 bC;clear hb2;go_wp2_with fail;refine(Ye _ _ _ _ _ HK.out O O).mono ?_;rintro e w2 ⟨rfl,hb2⟩;obtain⟨hc2,-⟩:=gq hb2;have hz2:=hb2.size;(try simp at hz2);(try have hy2:w.heap.size<w2.heap.size:=by omega);replace hb:=fM (w:=w) hb2 bC;clear hb2;go_wp2_with fail;go_ret2;exact⟨by rw[HV.out,H.out];rfl,hb⟩
 ·have HV:Hid (ax.pG Y M P p=0):=I (by unfold ax.pG;rw[bE h]);have h':(ax.bJ Y M P p !=0)=ae:=by rw[Mw];exact h
  clear h;go_enter Tryz.func78,Tryz.ntmps78;go_wp2_with fail;refine(Sg _ _ _ _ _).mono ?_;rintro e w2 ⟨rfl,hb2⟩;obtain⟨hc2,-⟩:=gq hb2;have hz2:=hb2.size;(try simp at hz2);(try have hy2:w.heap.size<w2.heap.size:=by omega);replace hb:=fM (w:=w) hb2 bC;clear hb2;go_wp2_with fail;go_ret2;exact⟨by rw[HV.out];rfl,hb⟩
theorem Yb (Y M P d:Int) (w:Z):
 aF ak 159 #[az #[G F Y,G F M,G F P],G F d] w λe w'=>e= .returned (bG #[G F (ax.mD Y M P d),G F (ax.oP Y M P d)])/\Below w.heap.size w w':=by
 have hb:=aD w.heap.size w
 cases h:ax.ok Y M P
 ·have HV:Hid (ax.mD Y M P d=0):=I (by unfold ax.mD;rw[h];rfl);have HE:Hid (ax.oP Y M P d=1):=I (by unfold ax.oP;rw[h];rfl);have H:=I h;clear h;go_enter Mx,MB;go_wp2_with fail;refine(Ah _ _ _ _ _ H).mono ?_;rintro e w2 ⟨rfl,hb2⟩;obtain⟨hc2,-⟩:=gq hb2;have hz2:=hb2.size;(try simp at hz2);(try have hy2:w.heap.size<w2.heap.size:=by omega);replace hb:=fM (w:=w) hb2 bC;clear hb2;go_wp2_with fail;go_ret2;exact⟨by rw[HV.out,HE.out];rfl,hb⟩
 ·have H:=I h;have k:=(ax.Fb Y M P).1 h;unfold ax.mq at k;obtain⟨m0,m1,p0,p1,y0,y1,_⟩:=k
  cases hD:Dt.nZ d
  ·have HV:Hid (ax.mD Y M P d=0):=I (by unfold ax.mD ax.qX;rw[h,hD];rfl);have HE:Hid (ax.oP Y M P d=2):=I (by unfold ax.oP ax.qX;rw[h,hD];rfl);have HN:=I ((Dt.aah d).1 hD);clear h hD;go_enter Mx,MB;go_wp2_with fail;refine(Ah _ _ _ _ _ H).mono ?_;rintro e w2 ⟨rfl,hb2⟩;obtain⟨hc2,-⟩:=gq hb2;have hz2:=hb2.size;(try simp at hz2);(try have hy2:w.heap.size<w2.heap.size:=by omega);replace hb:=fM (w:=w) hb2 bC;clear hb2;go_wp2_with fail;refine(afd _ _ HN.out).mono ?_;rintro e w2 ⟨rfl,rfl⟩;go_wp2_with fail;go_ret2;exact⟨by rw[HV.out,HE.out];rfl,hb⟩
  ·have HD:=I hD;obtain⟨c1,c2,c3,c4,c5,c6,c7⟩:=Dt.JK d hD;have hq:ax.pq Y M d=12*Dt.cY d+Dt.cM d - 12*Y - M:=rfl
   by_cases a1:12*Dt.cY d+Dt.cM d - 12*Y - M<0
   ·have HB:ax.qX Y M P d=ag:=by unfold ax.qX;rw[hD,hq];simp;omega
    have HV:Hid (ax.mD Y M P d=0):=I (by unfold ax.mD;rw[h,HB];rfl);have HE:Hid (ax.oP Y M P d=2):=I (by unfold ax.oP;rw[h,HB];rfl);clear h hD hq c6 HB;go_enter Mx,MB;go_wp2_with fail;refine(Ah _ _ _ _ _ H).mono ?_;rintro e w2 ⟨rfl,hb2⟩;obtain⟨hc2,-⟩:=gq hb2;have hz2:=hb2.size;(try simp at hz2);(try have hy2:w.heap.size<w2.heap.size:=by omega);replace hb:=fM (w:=w) hb2 bC;clear hb2;go_wp2_with fail;refine(NY _ _ HD).mono ?_;rintro e w2 ⟨rfl,hb2⟩;obtain⟨hc2,-⟩:=gq hb2;have hz2:=hb2.size;(try simp at hz2);(try have hy2:w.heap.size<w2.heap.size:=by omega);replace hb:=fM (w:=w) hb2 bC;clear hb2;go_wp2_with fail;go_ret2;exact⟨by rw[HV.out,HE.out];rfl,hb⟩
   by_cases a2:P<=12*Dt.cY d+Dt.cM d - 12*Y - M
   ·have HB:ax.qX Y M P d=ag:=by unfold ax.qX;rw[hD,hq];simp;omega
    have HV:Hid (ax.mD Y M P d=0):=I (by unfold ax.mD;rw[h,HB];rfl);have HE:Hid (ax.oP Y M P d=2):=I (by unfold ax.oP;rw[h,HB];rfl);clear h hD hq c6 HB;go_enter Mx,MB;go_wp2_with fail;refine(Ah _ _ _ _ _ H).mono ?_;rintro e w2 ⟨rfl,hb2⟩;obtain⟨hc2,-⟩:=gq hb2;have hz2:=hb2.size;(try simp at hz2);(try have hy2:w.heap.size<w2.heap.size:=by omega);replace hb:=fM (w:=w) hb2 bC;clear hb2;go_wp2_with fail;refine(NY _ _ HD).mono ?_;rintro e w2 ⟨rfl,hb2⟩;obtain⟨hc2,-⟩:=gq hb2;have hz2:=hb2.size;(try simp at hz2);(try have hy2:w.heap.size<w2.heap.size:=by omega);replace hb:=fM (w:=w) hb2 bC;clear hb2;go_wp2_with fail;go_ret2;exact⟨by rw[HV.out,HE.out];rfl,hb⟩
   ·have HB:ax.qX Y M P d=ae:=by unfold ax.qX;rw[hD,hq];simp;omega
    have HV:Hid (ax.mD Y M P d=12*Dt.cY d+Dt.cM d - 12*Y - M):=I (by unfold ax.mD;rw[h,HB];rfl);have HE:Hid (ax.oP Y M P d=0):=I (by unfold ax.oP;rw[h,HB];rfl);clear h hD hq c6 HB;go_enter Mx,MB;go_wp2_with fail;refine(Ah _ _ _ _ _ H).mono ?_;rintro e w2 ⟨rfl,hb2⟩;obtain⟨hc2,-⟩:=gq hb2;have hz2:=hb2.size;(try simp at hz2);(try have hy2:w.heap.size<w2.heap.size:=by omega);replace hb:=fM (w:=w) hb2 bC;clear hb2;go_wp2_with fail;refine(NY _ _ HD).mono ?_;rintro e w2 ⟨rfl,hb2⟩;obtain⟨hc2,-⟩:=gq hb2;have hz2:=hb2.size;(try simp at hz2);(try have hy2:w.heap.size<w2.heap.size:=by omega);replace hb:=fM (w:=w) hb2 bC;clear hb2;go_wp2_with fail;go_ret2;exact⟨by rw[HV.out,HE.out];rfl,hb⟩
theorem ax.aej (Y M p:Int) (h:Dt.kG Y M 1=ae):Dt.Er (Dt.num Y M 1) p=ax.Am (ax.tm Y M p)/\Dt.Ep (Dt.num Y M 1) p=ax.uN (ax.tm Y M p):=by
 obtain⟨c1,c2,c3⟩:=Dt.Sm _ Y M 1 h rfl;have hD:=Dt.aai Y M 1 h;have hm:Dt.oN (Dt.num Y M 1) p=ax.tm Y M p:=by unfold Dt.oN ax.tm;rw[c1,c2]
 have ha:Dt.qN (Dt.num Y M 1) p=ax.wM (ax.tm Y M p):=by unfold Dt.qN ax.wM;rw[hD,hm];rfl
 unfold Dt.Er Dt.Ep ax.Am ax.uN;rw[ha]
 by_cases hk:ax.wM (ax.tm Y M p)=ae
 ·simp only[bB hk];rw[ax.Lj]at hk;have v:=ax.Gx _ hk.1 hk.2;rw[Dt.uw]at v;refine⟨?_,by trivial⟩;unfold Dt.addN ax.fd;rw[hm,c3,show min 1 (Dt.days (ax.tm Y M p / 12) (ax.tm Y M p % 12+1))=1 from O]
 ·simp[bE hk]
theorem ax.Vj (Y M:Int):Dt.kG Y M 1=ae↔1900<=Y/\Y<=2199/\1<=M/\M<=12:=by
 rw[Dt.uw]
 constructor
 ·intro h;exact Dt.Sq Y M O
 ·intro ⟨h1,h2,h3,h4⟩;rw[Dt.qO Y M h1 h2 h3 h4];have l:=Dt.uo Y;have:=Dt.Li (Dt.lp Y) M O O h3 h4;omega
theorem abp (Y M P p:Int) (w:Z) (h:Hid (Dt.kG Y M 1=ae)):
 aF ak 242 #[az #[G F Y,G F M,G F P],G F p] w λe w'=>e= .returned (bG #[G F (ax.Am (ax.tm Y M p)),G F (ax.uN (ax.tm Y M p))])/\Below w.heap.size w w':=by
 have HE:=I (ax.aej Y M p h.out);have hb:=aD w.heap.size w;go_enter Tryz.func242,Tryz.ntmps242;go_wp2_with fail;refine(abK _ _ _ _ h.out).mono ?_;rintro e w2 ⟨rfl,rfl⟩;go_wp2_with fail;refine(amm _ _ _).mono ?_;rintro e w2 ⟨rfl,rfl⟩;go_wp2_with fail;go_ret2;exact⟨abA HE.out,bC⟩
theorem amy (Y M P p:Int) (w:Z) (h:Hid (Dt.kG Y M 1=ag)):
 aF ak 242 #[az #[G F Y,G F M,G F P],G F p] w λe w'=>e= .returned (bG #[G F 0,G F 2])/\Below w.heap.size w w':=by
 have hb:=aD w.heap.size w;go_enter Tryz.func242,Tryz.ntmps242;go_wp2_with fail;refine(anb _ _ _ _ h.out).mono ?_;rintro e w2 ⟨rfl,rfl⟩;go_wp2_with fail;go_ret2;exact⟨rfl,bC⟩
theorem Pf (Y M P:Int) (w:Z):
 aF ak 192 #[az #[G F Y,G F M,G F P]] w λe w'=>e= .returned (aA (ax.ok Y M P))/\Below w.heap.size w w':=by
 have hb:=aD w.heap.size w
 by_cases h:1<=P/\P<=120
 ·obtain⟨p0,p1⟩:=h
  cases hv:Dt.kG Y M 1
  ·have HF:Hid (ax.ok Y M P=ag):=I ((ax.UH Y M P).2 (λk=>by
    unfold ax.mq at k;have:=(ax.Vj Y M).2 O;rw[hv]at this;cases this))
   have HV:=I hv;clear hv;go_enter Tryz.func192,Tryz.ntmps192;go_wp2_with fail;refine(amy Y M P _ _ HV).mono ?_;rintro e w2 ⟨rfl,hb2⟩;obtain⟨hc2,-⟩:=gq hb2;have hz2:=hb2.size;(try simp at hz2);(try have hy2:w.heap.size<w2.heap.size:=by omega);replace hb:=fM (w:=w) hb2 bC;clear hb2;go_wp2_with fail;go_ret;exact⟨by rw[HF.out];rfl,hb⟩
  ·have k:=(ax.Vj Y M).1 hv;have HE:Hid (∀ e,e=ax.uN (ax.tm Y M (P - 1))->(e==0)=ax.ok Y M P):=by
    refine I (λe he=> ?_);rw[he];unfold ax.uN ax.wM ax.ok ax.mq;have:22800<=ax.tm Y M (P - 1):=by unfold ax.tm;omega
    by_cases h2:ax.tm Y M (P - 1)<=26399
    ·simp[*]
    ·simp[*]
   have HV:=I hv;clear hv k;go_enter Tryz.func192,Tryz.ntmps192;go_wp2_with fail;refine(abp Y M P _ _ HV).mono ?_;rintro e w2 ⟨rfl,hb2⟩;obtain⟨hc2,-⟩:=gq hb2;have hz2:=hb2.size;(try simp at hz2);(try have hy2:w.heap.size<w2.heap.size:=by omega);replace hb:=fM (w:=w) hb2 bC;clear hb2;go_wp2_with fail;go_ret;exact⟨gz (HE.out _ rfl),hb⟩
 ·have HF:Hid (ax.ok Y M P=ag):=I ((ax.UH Y M P).2 (by unfold ax.mq;omega))
  by_cases c3:P<1
  ·clear h;go_enter Tryz.func192,Tryz.ntmps192;go_wp2_with fail;go_ret;exact⟨by rw[HF.out];rfl,bC⟩
  have c4:120<P:=O;clear h;go_enter Tryz.func192,Tryz.ntmps192;go_wp2_with fail;go_ret;exact⟨by rw[HF.out];rfl,bC⟩
theorem Pg (Y M P:Int) (b:Bool) (w:Z) (h:Hid (ax.ok Y M P=b)):
 aF ak 192 #[az #[G F Y,G F M,G F P]] w λe w'=>e= .returned (aA b)/\Below w.heap.size w w':=by
 have:=Pf Y M P w;rw[h.out]at this;exact this
theorem abo (Y M P p:Int) (w:Z):
 aF ak 275 #[az #[G F Y,G F M,G F P],G F p] w λe w'=>e= .returned (G F (ax.bJ Y M P p))/\Below w.heap.size w w':=by
 have hb:=aD w.heap.size w
 cases h:ax.ok Y M P
 ·have HF:Hid (ax.bJ Y M P p=1):=I (by unfold ax.bJ;rw[h];rfl);have H:=I h;clear h;go_enter Tryz.func275,Tryz.ntmps275;go_wp2_with fail;refine(Pg _ _ _ _ _ H).mono ?_;rintro e w2 ⟨rfl,hb2⟩;obtain⟨hc2,-⟩:=gq hb2;have hz2:=hb2.size;(try simp at hz2);(try have hy2:w.heap.size<w2.heap.size:=by omega);replace hb:=fM (w:=w) hb2 bC;clear hb2;go_wp2_with fail;go_ret;exact⟨by rw[HF.out];rfl,hb⟩
 ·have H:=I h
  by_cases c1:p<0
  ·have HF:Hid (ax.bJ Y M P p=2):=I (by unfold ax.bJ;rw[h,bB rfl,bE O]);clear h;go_enter Tryz.func275,Tryz.ntmps275;go_wp2_with fail;refine(Pg _ _ _ _ _ H).mono ?_;rintro e w2 ⟨rfl,hb2⟩;obtain⟨hc2,-⟩:=gq hb2;have hz2:=hb2.size;(try simp at hz2);(try have hy2:w.heap.size<w2.heap.size:=by omega);replace hb:=fM (w:=w) hb2 bC;clear hb2;go_wp2_with fail;go_ret;exact⟨by rw[HF.out];rfl,hb⟩
  by_cases c2:P<=p
  ·have HF:Hid (ax.bJ Y M P p=2):=I (by unfold ax.bJ;rw[h,bB rfl,bE O]);clear h;go_enter Tryz.func275,Tryz.ntmps275;go_wp2_with fail;refine(Pg _ _ _ _ _ H).mono ?_;rintro e w2 ⟨rfl,hb2⟩;obtain⟨hc2,-⟩:=gq hb2;have hz2:=hb2.size;(try simp at hz2);(try have hy2:w.heap.size<w2.heap.size:=by omega);replace hb:=fM (w:=w) hb2 bC;clear hb2;go_wp2_with fail;go_ret;exact⟨by rw[HF.out];rfl,hb⟩
  ·have HF:Hid (ax.bJ Y M P p=0):=I (by unfold ax.bJ;rw[h,bB rfl,bB O]);clear h;go_enter Tryz.func275,Tryz.ntmps275;go_wp2_with fail;refine(Pg _ _ _ _ _ H).mono ?_;rintro e w2 ⟨rfl,hb2⟩;obtain⟨hc2,-⟩:=gq hb2;have hz2:=hb2.size;(try simp at hz2);(try have hy2:w.heap.size<w2.heap.size:=by omega);replace hb:=fM (w:=w) hb2 bC;clear hb2;go_wp2_with fail;go_ret;exact⟨by rw[HF.out];rfl,hb⟩
theorem amx (Y M P p x:Int) (w:Z) (h:Hid (ax.bJ Y M P p=x)):
 aF ak 275 #[az #[G F Y,G F M,G F P],G F p] w λe w'=>e= .returned (G F x)/\Below w.heap.size w w':=by
 have:=abo Y M P p w;rw[h.out]at this;exact this
theorem amz (Y M P p:Int) (w:Z) (h:ax.mq Y M P) (h0:0<=p) (h1:p<P):
 aF ak 242 #[az #[G F Y,G F M,G F P],G F p] w λe w'=>e= .returned (bG #[G F (ax.fd (ax.tm Y M p)),G F 0])/\Below w.heap.size w w':=by
 have t:=ax.yu Y M P p h h0 h1;have hm:ax.wM (ax.tm Y M p)=ae:=(ax.Lj _).2 t;unfold ax.mq at h;have:=abp Y M P p w (I ((ax.Vj Y M).2 O));unfold ax.Am ax.uN at this;rw[hm]at this;exact this
theorem amB (n:Int) (w:Z) (h:Hid (Dt.nZ n=ae)):
 aF ak 276 #[G F n] w λe w'=>e= bM (bG #[G F (Dt.cY n),G F (Dt.cM n),G F (Dt.cD n),G F 0])/\w=w':=
 Hl n w ((Dt.AJ n).1 h.out).1 ((Dt.AJ n).1 h.out).2
theorem UQ (Y M P p:Int) (w:Z):
 aF ak 248 #[az #[G F Y,G F M,G F P],G F p] w λe w'=>e= .returned (bG #[G F (ax.gW Y M P p),G F (ax.bJ Y M P p)])/\Below w.heap.size w w':=by
 have hb:=aD w.heap.size w
 by_cases h:ax.bJ Y M P p=0
 ·obtain⟨k0,k1,k2⟩:=(ax.Aj Y M P p).1 h;have HV:Hid (ax.gW Y M P p=ax.fd (ax.tm Y M p)):=I (by unfold ax.gW;rw[bB h]);have H:=I h;have HK:=I k0;clear h k0;go_enter Tryz.func248,Tryz.ntmps248;go_wp2_with fail;refine(amx _ _ _ _ _ _ H).mono ?_;rintro e w2 ⟨rfl,hb2⟩;obtain⟨hc2,-⟩:=gq hb2;have hz2:=hb2.size;(try simp at hz2);(try have hy2:w.heap.size<w2.heap.size:=by omega);replace hb:=fM (w:=w) hb2 bC;clear hb2;go_wp2_with fail;refine(amz _ _ _ _ _ HK.out k1 k2).mono ?_;rintro e w2 ⟨rfl,hb2⟩;obtain⟨hc2,-⟩:=gq hb2;have hz2:=hb2.size;(try simp at hz2);(try have hy2:w.heap.size<w2.heap.size:=by omega);replace hb:=fM (w:=w) hb2 bC;clear hb2;go_wp2_with fail;go_ret2;exact⟨by rw[HV.out,H.out];rfl,hb⟩
 ·have HV:Hid (ax.gW Y M P p=0):=I (by unfold ax.gW;rw[bE h]);have h':(ax.bJ Y M P p !=0)=ae:=by rw[Mw];exact h
  clear h;go_enter Tryz.func248,Tryz.ntmps248;go_wp2_with fail;refine(abo _ _ _ _ _).mono ?_;rintro e w2 ⟨rfl,hb2⟩;obtain⟨hc2,-⟩:=gq hb2;have hz2:=hb2.size;(try simp at hz2);(try have hy2:w.heap.size<w2.heap.size:=by omega);replace hb:=fM (w:=w) hb2 bC;clear hb2;go_wp2_with fail;go_ret2;exact⟨by rw[HV.out];rfl,hb⟩
theorem amv (Y M P p v x:Int) (w:Z) (h:Hid (ax.gW Y M P p=v)) (h2:Hid (ax.bJ Y M P p=x)):
 aF ak 248 #[az #[G F Y,G F M,G F P],G F p] w λe w'=>e= .returned (bG #[G F v,G F x])/\Below w.heap.size w w':=by
 have:=UQ Y M P p w;rw[h.out,h2.out]at this;exact this
theorem amw (Y M P p:Int) (w:Z):
 aF ak 249 #[az #[G F Y,G F M,G F P],G F p] w λe w'=>e= .returned (bG #[G F (ax.cB Y M P p),G F (ax.bJ Y M P p)])/\Below w.heap.size w w':=by
 have hb:=aD w.heap.size w
 by_cases h:ax.bJ Y M P p=0
 ·obtain⟨k0,k1,k2⟩:=(ax.Aj Y M P p).1 h;obtain⟨t0,t1⟩:=ax.yu Y M P p k0 k1 k2;have HV:Hid (ax.cB Y M P p=ax.ld (ax.tm Y M p)):=I (by unfold ax.cB;rw[bB h]);have HF:Hid (ax.gW Y M P p=ax.fd (ax.tm Y M p)):=I (by unfold ax.gW;rw[bB h]);obtain⟨c1,c2,c3,c4⟩:=ax.Yh (ax.tm Y M p) t0 t1;have C1:=I c1;have C2:=I c2;have C3:=I c3;have H:=I h;have b1:=ax.YC (ax.tm Y M p) t0 t1;have b2:=Dt.zb (ax.tm Y M p / 12) (ax.tm Y M p % 12+1);clear h k0 c1 c2 c3 c4;go_enter Tryz.func249,Tryz.ntmps249;go_wp2_with fail;refine(amv _ _ _ _ _ _ _ HF H).mono ?_;rintro e w2 ⟨rfl,hb2⟩;obtain⟨hc2,-⟩:=gq hb2;have hz2:=hb2.size;(try simp at hz2);(try have hy2:w.heap.size<w2.heap.size:=by omega);replace hb:=fM (w:=w) hb2 bC;clear hb2;go_wp2_with fail;refine(amB _ _ C1).mono ?_;rw[C2.out,C3.out];rintro e w2 ⟨rfl,rfl⟩;go_wp2_with fail;refine(Fp _ _ _).mono ?_;rintro e w2 ⟨rfl,rfl⟩;go_wp2_with fail;go_ret2;exact⟨by rw[HV.out,H.out];rfl,hb⟩
 ·have HV:Hid (ax.cB Y M P p=0):=I (by unfold ax.cB;rw[bE h]);have h':(ax.bJ Y M P p !=0)=ae:=by rw[Mw];exact h
  clear h;go_enter Tryz.func249,Tryz.ntmps249;go_wp2_with fail;refine(UQ _ _ _ _ _).mono ?_;rintro e w2 ⟨rfl,hb2⟩;obtain⟨hc2,-⟩:=gq hb2;have hz2:=hb2.size;(try simp at hz2);(try have hy2:w.heap.size<w2.heap.size:=by omega);replace hb:=fM (w:=w) hb2 bC;clear hb2;go_wp2_with fail;go_ret2;exact⟨by rw[HV.out];rfl,hb⟩
theorem ax.Um (Y M P d p:Int) (h:ax.mq Y M P) (h0:0<=p) (h1:p<P):(ax.fd (ax.tm Y M p)<=d/\d<=ax.ld (ax.tm Y M p))↔(Dt.nZ d=ae/\ax.pq Y M d=p):=by
 obtain⟨t0,t1⟩:=ax.yu Y M P p h h0 h1;rw[ax.aiX _ d t0 t1];unfold ax.tm ax.pq
 constructor
 ·intro ⟨a,b⟩;exact⟨a,O⟩
 ·intro ⟨a,b⟩;exact⟨a,O⟩
end Go.Proofs.YtbedbfdhfokifaaGreat
