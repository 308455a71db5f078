/- Part of the proof of WholeMatching. -/
import Derived.Test.YtbedbfdhfokifaaGreatJAA
namespace Go.Proofs.YtbedbfdhfokifaaGreat
set_option maxRecDepth 100000
set_option maxHeartbeats 16000000
set_option linter.unusedVariables false
set_option linter.unusedSimpArgs false
open _root_.Bool renaming true->ae,false->ag
open Go renaming World->Z,Calls->aF
open Go.Ending renaming returned->bM
open Go.Instr renaming index->yx
open Go.IntKind renaming i64->F
open Go.Proofs.Tryz renaming prog->ak
open Go.Value renaming int->G,bool->aA,agg->az,tuple->bG
open Go.RowKit
theorem aaz (y:Int) (w:Z) (h0:0<=y) (h1:y<=100000):
 aF ak 86 #[G F y] w λe w'=>e= bM (aA (Dt.jy y))/\w=w':=by
 by_cases h4:y % 4=0
 ·by_cases EF:y % 100=0
  ·by_cases xV:y % 400=0
   ·have hb:Dt.jy y=ae:=by simp[Dt.jy,h4,EF,xV]
    go_enter Tryz.func86,Tryz.ntmps86;go_wp2;go_ret;exact⟨gz (by rw[hb];try simp[*]),rfl⟩
   ·have hb:Dt.jy y=ag:=by simp[Dt.jy,h4,EF,xV]
    go_enter Tryz.func86,Tryz.ntmps86;go_wp2;go_ret;exact⟨gz (by rw[hb];try simp[*]),rfl⟩
  ·have hb:Dt.jy y=ae:=by simp[Dt.jy,h4,EF]
   go_enter Tryz.func86,Tryz.ntmps86;go_wp2;go_ret;exact⟨gz (by rw[hb];try simp[*]),rfl⟩
 ·have hb:Dt.jy y=ag:=by simp[Dt.jy,h4]
  go_enter Tryz.func86,Tryz.ntmps86;go_wp2;go_ret;exact⟨gz (by rw[hb];try simp[*]),rfl⟩
theorem R9 (y:Int) (w:Z) (h0:1<=y) (h1:y<=100000):
 aF ak 85 #[G F y] w λe w'=>e= bM (G F (Dt.eD y))/\w=w':=by
 go_enter Tryz.func85,Tryz.ntmps85;go_wp2;go_ret;exact⟨rfl,rfl⟩
theorem Gv (y m:Int) (w:Z):
 aF ak 45 #[G F y,G F m] w λe w'=>e= .returned (G F (Dt.days y m))/\Below w.heap.size w w':=by
 by_cases hy1:y<1900
 ·go_enter FH,FI;go_wp2;go_ret;exact⟨jg (by unfold Dt.days;rw[bB O]),aD _ _⟩
 by_cases hy2:2199<y
 ·go_enter FH,FI;go_wp2;go_ret;exact⟨jg (by unfold Dt.days;rw[bB O]),aD _ _⟩
 by_cases hm1:m<1
 ·go_enter FH,FI;go_wp2;go_ret;exact⟨jg (by unfold Dt.days;rw[bB O]),aD _ _⟩
 by_cases hm2:12<m
 ·go_enter FH,FI;go_wp2;go_ret;exact⟨jg (by unfold Dt.days;rw[bB O]),aD _ _⟩
 have hd:Dt.days y m=Dt.lM (Dt.lp y) m:=Dt.qO y m O O O O;rw[hd];clear hd
 by_cases hm:m=2
 ·subst hm
  by_cases hl:Dt.jy y=ae
  ·have hd:Dt.lM (Dt.lp y) 2=29:=by simp[Dt.lM,Dt.lp,hl]
   rw[hd];have HL:=I hl;clear hl hd;go_enter FH,FI;go_wp2_with (go_at_call 86;refine(aaz _ _ O O).mono ?_;rintro e w' ⟨rfl,rfl⟩;rw[HL.out]);go_ret;exact⟨rfl,(aD _ _).alloc (aC _) _⟩
  ·have hl':Dt.jy y=ag:=by simpa using hl
   have hd:Dt.lM (Dt.lp y) 2=28:=by simp[Dt.lM,Dt.lp,hl']
   rw[hd];have HL:=I hl';clear hl hl' hd;go_enter FH,FI;go_wp2_with (go_at_call 86;refine(aaz _ _ O O).mono ?_;rintro e w' ⟨rfl,rfl⟩;rw[HL.out]);go_ret;exact⟨rfl,(aD _ _).alloc (aC _) _⟩
 ·have:m=1\/m=3\/m=4\/m=5\/m=6\/m=7\/m=8\/m=9\/m=10\/m=11\/m=12:=O
  rcases this with rfl|rfl|rfl|rfl|rfl|rfl|rfl|rfl|rfl|rfl|rfl
  all_goals
   clear hm hm1 hm2;go_enter FH,FI;go_wp2;go_ret;exact⟨jg (by simp[Dt.lM]),(aD _ _).alloc (aC _) _⟩
theorem Fu (y:Int) (w:Z) (h0:0<=y) (h1:y<=100000):
 aF ak 296 #[G F y] w λe w'=>e= bM (aA (Dt.jy y))/\w=w':=by
 by_cases h4:y % 4=0
 ·by_cases EF:y % 100=0
  ·by_cases xV:y % 400=0
   ·have hb:Dt.jy y=ae:=by simp[Dt.jy,h4,EF,xV]
    go_enter Tryz.func296,Tryz.ntmps296;go_wp2;go_ret;exact⟨gz (by rw[hb]),rfl⟩
   ·have hb:Dt.jy y=ag:=by simp[Dt.jy,h4,EF,xV]
    go_enter Tryz.func296,Tryz.ntmps296;go_wp2;go_ret;exact⟨gz (by rw[hb];try simp[*]),rfl⟩
  ·have hb:Dt.jy y=ae:=by simp[Dt.jy,h4,EF]
   go_enter Tryz.func296,Tryz.ntmps296;go_wp2;go_ret;exact⟨gz (by rw[hb]),rfl⟩
 ·have hb:Dt.jy y=ag:=by simp[Dt.jy,h4]
  go_enter Tryz.func296,Tryz.ntmps296;go_wp2;go_ret;exact⟨gz (by rw[hb]),rfl⟩
theorem amG (m l:Int) (h1:1<=m) (h2:m<=12) (h3:m≠2\/l=0) (w:Z):
 (yx 171 (az #[G F 31,G F 28,G F 31,G F 30,G F 31,G F 30,G F 31,G F 31,G F 30,G F 31,G F 30,G F 31]) (G F (m - 1))).run ak w= .ok (G F (Dt.lM l m)) w:=by
 obtain⟨i0,hi,hz0,hz1,hz2⟩:=jh CY;refine anG Tryz.underlying171 dh hi hz1 _ _ _ O O ?_ w;have:m=1\/m=2\/m=3\/m=4\/m=5\/m=6\/m=7\/m=8\/m=9\/m=10\/m=11\/m=12:=O
 rcases this with rfl|rfl|rfl|rfl|rfl|rfl|rfl|rfl|rfl|rfl|rfl|rfl
 case inr.inl=>
  obtain rfl:l=0:=O
  rfl
 all_goals rfl
theorem Fp (y m:Int) (w:Z):
 aF ak 277 #[G F y,G F m] w λe w'=>e= bM (G F (Dt.days y m))/\w=w':=by
 by_cases hy:y<1900\/2199<y\/m<1\/12<m
 ·have hd:Dt.days y m=0:=by unfold Dt.days;rw[bB hy]
  rw[hd];clear hd
  by_cases hm1:m<1
  ·clear hy;go_enter FJ,FK;go_wp2;go_ret;exact⟨rfl,rfl⟩
  by_cases hm2:12<m
  ·clear hy;go_enter FJ,FK;go_wp2;go_ret;exact⟨rfl,rfl⟩
  by_cases hy1:y<1900
  ·clear hy;go_enter FJ,FK;go_wp2;go_ret;exact⟨rfl,rfl⟩
  have hy2:2199<y:=O;clear hy;go_enter FJ,FK;go_wp2;go_ret;exact⟨rfl,rfl⟩
 have hd:Dt.days y m=Dt.lM (Dt.lp y) m:=Dt.qO y m O O O O;rw[hd];have b1:1900<=y:=O;have b2:y<=2199:=O;have b3:1<=m:=O;have b4:m<=12:=O;clear hd hy;have Ur:=Dt.uo y
 by_cases hm:m=2/\Dt.jy y=ae
 ·obtain⟨rfl,hl⟩:=hm;have hd:Dt.lM (Dt.lp y) 2=29:=by simp[Dt.lM,Dt.lp,hl]
  rw[hd];have HL:=I hl;clear hl hd Ur;go_enter FJ,FK;go_wp2_with (go_at_call 296;refine(Fu _ _ O O).mono ?_;rintro e w' ⟨rfl,rfl⟩;rw[HL.out]);go_ret;exact⟨rfl,rfl⟩
 ·have hidx:=amG m (Dt.lp y) b3 b4 (by
   by_cases h2:m=2
   ·exact Or.inr (by unfold Dt.lp;rw[bE (λh=>hm ⟨h2,h⟩)])
   ·exact Or.inl h2)
  generalize Dt.lM (Dt.lp y) m=v at*
  by_cases h2:m=2
  ·have HL:Hid (Dt.jy y=ag):=by
    have: ¬ Dt.jy y=ae:=λh=>hm ⟨h2,h⟩
    exact I (by simpa using this)
   subst h2;rw[show (2:Int) - 1=1 from rfl]at hidx;clear hm Ur;go_enter FJ,FK;go_wp2_with (go_at_call 296;refine(Fu _ _ O O).mono ?_;rintro e w' ⟨rfl,rfl⟩;rw[HL.out]);go_ret;exact⟨rfl,rfl⟩
  ·clear hm Ur;go_enter FJ,FK;go_wp2_with fail;go_ret;exact⟨rfl,rfl⟩
theorem Dt.akK (y m d:Int):Dt.eD y+d - 1+Dt.gM (Dt.lp y) m=Dt.num y m d:=by unfold Dt.num;omega
theorem akS (y m d:Int) (w:Z) (h:Dt.kG y m d=ag) (hd1: -9223372036854775808<=d) (hd2:d<=9223372036854775807):
 aF ak 130 #[G F y,G F m,G F d] w λe w'=>e= .returned (bG #[G F 0,G F 2])/\Below w.heap.size w w':=by
 have hv: ¬ (1<=d/\d<=Dt.days y m):=by rw[<- Dt.uw,h];simp
 clear h
 by_cases h1:d<1
 ·clear hv;go_enter Tryz.func130,Tryz.ntmps130;go_wp2_with fail;go_ret2;exact⟨rfl,aD _ _⟩
 ·have h2:Dt.days y m<d:=O;clear hv;go_enter Tryz.func130,Tryz.ntmps130;go_wp2_with (go_at_call 45;refine(Gv _ _ _).mono ?_;rintro e w1 ⟨rfl,hb⟩);go_ret2;exact⟨rfl,hb⟩
theorem akT (y m d:Int) (w:Z) (h:Dt.kG y m d=ae):
 aF ak 130 #[G F y,G F m,G F d] w λe w'=>e= .returned (bG #[G F (Dt.num y m d),G F 0])/\Below w.heap.size w w':=by
 have hv:=(Dt.uw y m d).1 h;obtain⟨a1,a2,a3,a4,a5,a6,a7⟩:=Dt.Hw y m d h;obtain⟨v1,v2⟩:=hv;have v3:=Dt.zb y m;have l:=Dt.uo y;have db:=Dt.N9 y O O;clear h a6;go_enter Tryz.func130,Tryz.ntmps130;go_wp2_with (first
  |(go_at_call 45;refine(Gv _ _ _).mono ?_;rintro e w1 ⟨rfl,hb⟩)
  |(go_at_call 85;refine(R9 _ _ O O).mono ?_;rintro e w' ⟨rfl,rfl⟩))
 go_loopw [8,9] (λn k wr=> ∃ j:Int,1<=j/\j<=m/\k= G F j/\n= G F (Dt.eD y+d - 1+Dt.gM (Dt.lp y) j)/\Below w.heap.size w wr) (λ_ k _=>(m - intOf k).toNat)
 case atStart=>exact⟨1,O,O,rfl,by rw[Dt.E8];go_num,hb⟩
 case round=>
  obtain⟨j,hj1,hj2,rfl,rfl,hbr⟩:=hrel;have c:=Dt.AP (Dt.lp y) j O O
  by_cases hlt:j<m
  ·have cs:=I (Dt.E9 (Dt.lp y) j O O);have HD:=I (Dt.qO y j O O O O);have dj:=Dt.zb y j;go_wp2_with (go_at_call 45;refine(Gv _ _ _).mono ?_;rintro e w2 ⟨rfl,hb2⟩);go_roundw
   case rel=>exact⟨j+1,O,O,by go_num,by rw[cs.out,<- HD.out];go_num,hbr.trans (hb2.mono hbr.size)⟩
   case measure=>simp[intOf];omega
  ·go_wp2_with fail;go_ret2;obtain rfl:j=m:=O;exact⟨by rw[<- Dt.akK];rfl,hbr⟩
theorem Sv (n:Int) (w:Z):
 aF ak 84 #[G F n] w λe w'=>e= bM (aA (decide (-25567<=n)&&decide (n<=84005)))/\w=w':=by
 by_cases h1: -25567<=n
 ·go_enter Tryz.func84,Tryz.ntmps84;go_wp2_with fail;go_ret;exact⟨gz (by simp[h1]),rfl⟩
 ·have h3:decide (-25567<=n)=ag:=by simpa using h1
  go_enter Tryz.func84,Tryz.ntmps84;go_wp2_with fail;go_ret;exact⟨gz aL,rfl⟩
theorem JP (n:Int) (w:Z):
 aF ak 55 #[G F n] w λe w'=>e= bM (aA (decide (-25567<=n)&&decide (n<=84005)))/\w=w':=by
 by_cases h1: -25567<=n
 ·go_enter Tryz.func55,Tryz.ntmps55;go_wp2_with fail;go_ret;exact⟨gz (by simp[h1]),rfl⟩
 ·have h3:decide (-25567<=n)=ag:=by simpa using h1
  go_enter Tryz.func55,Tryz.ntmps55;go_wp2_with fail;go_ret;exact⟨gz aL,rfl⟩
theorem aoU (n:Int) (w:Z) (h1: -25567<=n) (h2:n<=84005):aF ak 84 #[G F n] w λe w'=>e= bM (aA ae)/\w=w':=
 (Sv n w).mono λ_ _ h=>by simpa [h1,h2] using h
theorem agj (n:Int) (w:Z) (h:n< -25567\/84005<n):aF ak 84 #[G F n] w λe w'=>e= bM (aA ag)/\w=w':=
 (Sv n w).mono λ_ _ k=>by
  have:(decide (-25567<=n)&&decide (n<=84005))=ag:=bL;rw[this]at k;exact k
theorem anN (n:Int) (w:Z) (h1: -25567<=n) (h2:n<=84005):aF ak 55 #[G F n] w λe w'=>e= bM (aA ae)/\w=w':=
 (JP n w).mono λ_ _ h=>by simpa [h1,h2] using h
theorem agd (n:Int) (w:Z) (h:n< -25567\/84005<n):aF ak 55 #[G F n] w λe w'=>e= bM (aA ag)/\w=w':=
 (JP n w).mono λ_ _ k=>by
  have:(decide (-25567<=n)&&decide (n<=84005))=ag:=bL;rw[this]at k;exact k
theorem afd (n:Int) (w:Z) (h:n< -25567\/84005<n):
 aF ak 44 #[G F n] w λe w'=>e= bM (bG #[G F 0,G F 0,G F 0,G F 2])/\w=w':=by
 have H:=I h;clear h;go_enter Tryz.func44,Tryz.ntmps44;go_wp2_with (go_at_call 84;refine(agj _ _ H.out).mono ?_;rintro e w' ⟨rfl,rfl⟩);refine iq (Pn rfl _ _ _) rfl ?_;exact⟨rfl,rfl⟩
theorem amC (n:Int) (w:Z) (h:n< -25567\/84005<n):
 aF ak 276 #[G F n] w λe w'=>e= bM (bG #[G F 0,G F 0,G F 0,G F 2])/\w=w':=by
 have H:=I h;clear h;go_enter Tryz.func276,Tryz.ntmps276;go_wp2_with (go_at_call 55;refine(agd _ _ H.out).mono ?_;rintro e w' ⟨rfl,rfl⟩);refine iq (Pn rfl _ _ _) rfl ?_;exact⟨rfl,rfl⟩
theorem Dt.agP (n:Int) (h1: -25567<=n) (h2:n<=84005):1899<=1968+n.tdiv 366/\1968+n.tdiv 366<=2200/\(1968+n.tdiv 366=1899\/Dt.eD (1968+n.tdiv 366)<=n):=by
 have hq:(0<=n/\n.tdiv 366=n / 366)\/(n<0/\n.tdiv 366= -(-n / 366)):=by
  rcases Int.lt_or_le n 0 with h|h
  ·right
   refine⟨h,?_⟩;have:n.tdiv 366= -((-n).tdiv 366):=by rw[Int.neg_tdiv];omega
   rw[this,Ik O]
  ·exact Or.inl ⟨h,Ik h⟩
 generalize n.tdiv 366=q at*;unfold Dt.eD;omega
theorem Dt.Sb (n:Int) (h1: -25567<=n) (h2:n<=84005):1900<=Dt.cY n/\Dt.cY n<=2199/\Dt.eD (Dt.cY n)<=n/\n<Dt.eD (Dt.cY n+1):=by
 have hy:=Dt.YJ 299 1900 n (by rw[Dt.JN];exact h1) (by show n<Dt.eD 2200;rw[Dt.Sr];omega)
 change 1900<=Dt.cY n/\Dt.cY n<=1900+299/\Dt.eD (Dt.cY n)<=n/\n<Dt.eD (Dt.cY n+1) at hy
 omega
theorem Dt.X9 (n:Int) (h1: -25567<=n) (h2:n<=84005):1<=Dt.cM n/\Dt.cM n<=12/\Dt.gM (Dt.lp (Dt.cY n)) (Dt.cM n)<=n - Dt.eD (Dt.cY n)/\n - Dt.eD (Dt.cY n)<Dt.gM (Dt.lp (Dt.cY n)) (Dt.cM n)+Dt.lM (Dt.lp (Dt.cY n)) (Dt.cM n):=by
 have hy:=Dt.Sb n h1 h2;have s:=Dt.Cn (Dt.cY n);have hm:=Dt.YI 11 (Dt.lp (Dt.cY n)) 1 (n - Dt.eD (Dt.cY n)) (by rw[Dt.E8];omega) (by show _<Dt.gM _ 13;rw[Dt.Uy];omega)
 change 1<=Dt.cM n/\Dt.cM n<=1+11/\Dt.gM (Dt.lp (Dt.cY n)) (Dt.cM n)<=n - Dt.eD (Dt.cY n)/\n - Dt.eD (Dt.cY n)<Dt.gM (Dt.lp (Dt.cY n)) (Dt.cM n+1) at hm
 have ms:=Dt.E9 (Dt.lp (Dt.cY n)) (Dt.cM n) O O;omega
theorem afe (n:Int) (w:Z) (h1: -25567<=n) (h2:n<=84005):
 aF ak 44 #[G F n] w λe w'=>e= .returned (bG #[G F (Dt.cY n),G F (Dt.cM n),G F (Dt.cD n),G F 0])/\Below w.heap.size w w':=by
 obtain⟨y1,y2,y3,y4⟩:=Dt.Sb n h1 h2;obtain⟨m1,m2,m3,m4⟩:=Dt.X9 n h1 h2;have hD:Dt.cD n=n - Dt.eD (Dt.cY n) - Dt.gM (Dt.lp (Dt.cY n)) (Dt.cM n)+1:=rfl;have hg:=Dt.agP n h1 h2;rw[hD];clear hD;have l:=Dt.uo (Dt.cY n);have hq:1968+n.tdiv 366<=Dt.cY n:=by
  rcases hg.2.2 with h|h
  ·omega
  ·rcases Int.lt_or_le (Dt.cY n) (1968+n.tdiv 366) with k|k
   ·have:=Dt.EB (Dt.cY n+1) (1968+n.tdiv 366) O;omega
   ·exact k
 generalize Dt.cY n=Y at*;generalize Dt.cM n=M at*;have g1:1899<=1968+n.tdiv 366:=hg.1;clear hg;have g2:n.tdiv 366<=300:=O;have g3: -100<=n.tdiv 366:=O;go_enter Tryz.func44,Tryz.ntmps44;go_wp2_with (go_at_call 84;refine(aoU _ _ h1 h2).mono ?_;rintro e w' ⟨rfl,rfl⟩);go_loopw [2] (λt wr=> ∃ y:Int,1899<=y/\y<=Y/\t= G F y/\Below w.heap.size w wr) (λt _=>(Y - intOf t).toNat)
 case atStart=>exact⟨1968+n.tdiv 366,g1,hq,by go_num,aD _ _⟩
 case round=>
  obtain⟨y,ya,yb,rfl,hbr⟩:=hrel;clear g1 g2 g3 hq
  by_cases hlt:y<Y
  ·have hm:=Dt.EB (y+1) Y O;have hle:Dt.eD (y+1)<=n:=O
   by_cases h19:y<1900
   ·go_wp2_with fail;go_roundw
    case rel=>exact⟨y+1,O,O,by go_num,hbr⟩
    case measure=>simp[intOf];omega
   ·go_wp2_with (go_at_call 85;refine(R9 _ _ O O).mono ?_;rintro e w' ⟨rfl,rfl⟩);go_roundw
    case rel=>exact⟨y+1,O,O,by go_num,hbr⟩
    case measure=>simp[intOf];omega
  ·obtain rfl:y=Y:=O;have db:=Dt.N9 y O O;have mb:=Dt.AP (Dt.lp y) M O O;go_wp2_with (go_at_call 85;refine(R9 _ _ O O).mono ?_;rintro e w' ⟨rfl,rfl⟩);obtain⟨wo,rfl⟩: ∃ wo:Z,wo=wr:=⟨_,rfl⟩;go_loopw [3,4] (λk r wr=> ∃ m:Int,1<=m/\m<=M/\k= G F m/\r= G F (n - Dt.eD y - Dt.gM (Dt.lp y) m)/\Below w.heap.size w wr) (λk _ _=>(M - intOf k).toNat)
   case atStart=>exact⟨1,O,O,rfl,by rw[Dt.E8];go_num,hbr⟩
   case round=>
    obtain⟨m,ma,mb',rfl,rfl,CJ⟩:=hrel;have c:=Dt.AP (Dt.lp y) m O O;have dj:=Dt.zb y m;have HD:=I (Dt.qO y m O O O O)
    by_cases hlt2:m<M
    ·have cs:=I (Dt.E9 (Dt.lp y) m O O);have OI:=Dt.OT (Dt.lp y) m M O O O hlt2 O;rw[<- HD.out]at OI;have hge:Dt.days y m<=n - Dt.eD y - Dt.gM (Dt.lp y) m:=O;go_wp2_with (go_at_call 45;refine(Gv _ _ _).mono ?_;rintro e w2 ⟨rfl,hb2⟩;replace CJ:=ay CJ hb2;clear hb2);go_roundw
     case rel=>exact⟨m+1,O,O,by go_num,by rw[cs.out,<- HD.out];go_num,CJ⟩
     case measure=>simp[intOf];omega
    ·obtain rfl:m=M:=O;rw[<- HD.out]at m4;have hlt3: ¬ Dt.days y m<=n - Dt.eD y - Dt.gM (Dt.lp y) m:=O;go_wp2_with (go_at_call 45;refine(Gv _ _ _).mono ?_;rintro e w2 ⟨rfl,hb2⟩;replace CJ:=ay CJ hb2;clear hb2);refine iq (Pn rfl _ _ _) rfl ?_;exact⟨rfl,CJ⟩
end Go.Proofs.YtbedbfdhfokifaaGreat
