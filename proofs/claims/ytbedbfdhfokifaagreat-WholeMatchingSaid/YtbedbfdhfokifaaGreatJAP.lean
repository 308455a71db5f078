/- Part of the proof of WholeMatching. -/
import Derived.Test.YtbedbfdhfokifaaGreatJAF
namespace Go.Proofs.YtbedbfdhfokifaaGreat
set_option maxRecDepth 100000
set_option maxHeartbeats 16000000
set_option linter.unusedVariables false
set_option linter.unusedSimpArgs false
open _root_.Bool renaming true->ae,false->ag
open Go renaming World->Z,Calls->aF,Aside->aU,Value->aj,Program->dH
open Go.IntKind renaming i64->F
open Go.Proofs.Tryz renaming prog->ak
open Go.Value renaming int->G,slice->T
open _root_.Option renaming none->J,some->N
open Go.RowKit
section
open Go.Shelf Go.RowKit Go.Lib Go.Sort
variable {P:dH} {k:Nat} (L:xQ P k) (enc:bW->List aj) (cf:bW->bW->Int) (g:Nat) (cb:Array aj) (blk off cap:Nat) (d0 d:Array bW) (w0 w:Z)
theorem aoi (L:xQ P k) (fC a m b:Nat) (hN:b<=a+fC) (eg: ∀ args w,(callFunc g args).run P w= .ok (.enter g args) w) (hcmp:CmpLays P g cb enc k cf blk off d0.size w0) (R:RowK enc k w0 blk off d0) (hs:d0.size=d.size) (S:SWK enc k w0 blk off d w) (kQ:a<m) (hmb:m<b) (hb:b<=d.size) (hsz:d.size<2305843009213693952):
 aF P 271 #[T (N ⟨blk,off,J⟩) d.size cap,G F a,G F m,G F b,.func (.func g) #[] cb] w (kz enc k w0 blk off d):=by
 induction fC generalizing a m b d w with
 |zero=>omega
 |succ fC ih=>
 have mixed:=L.mixed;have t0:=L.t0;have a0:=L.a0;have z0:=L.z0;have v0:=L.v0;have t1:=L.t1;have a1:=L.a1;have z1:=L.z1;have v1:=L.v1;have t2:=L.t2;have a2:=L.a2;have z2:=L.z2;have v2:=L.v2;have t3:=L.t3;have a3:=L.a3;have z3:=L.z3;have v3:=L.v3;have t4:=L.t4;have a4:=L.a4;have z4:=L.z4;have v4:=L.v4;have t5:=L.t5;have a5:=L.a5;have z5:=L.z5;have v5:=L.v5;have aE:=L.aE;have zE:=L.zE;have u4:=kY L.t4;have u3:=kY L.t3;have u1:=kY L.t1;have S0:aU (SWK enc k w0 blk off d w):=S;have HC:aU _:=hcmp;have KM:aU (∀ (x y z:Nat) (dk:Array bW) (W:Z),dk.size=d.size->SWK enc k w0 blk off dk W->x<y->y<z->z<=d.size->z<=x+fC->aF P 271 #[T (N ⟨blk,off,J⟩) d.size cap,G F x,G F y,G F z,.func (.func g) #[] cb] W (kz enc k w0 blk off dk)):=λx y z dk W hd hS h1 h2 h3 h4=>by
  have:=ih dk W x y z h4 O hS h1 h2 O O
  rwa [hd]at this
 have KR:aU (∀ (x y z:Nat) (dk:Array bW) (W:Z),dk.size=d.size->SWK enc k w0 blk off dk W->x<y->y<z->z<=d.size->aF P 295 #[T (N ⟨blk,off,J⟩) d.size cap,G F x,G F y,G F z,.func (.func g) #[] cb] W (kz enc k w0 blk off dk)):=λx y z dk W hd hS h1 h2 h3=>by
  have:=aoj enc g cb blk off cap d0 dk w0 W L x y z R O hS h1 h2 O O
  rwa [hd]at this
 have es: ∀ args w,(callFunc 295 args).run P w= .ok (.enter 295 args) w:=enters_of L.fr ai rfl;have em: ∀ args w,(callFunc 271 args).run P w= .ok (.enter 271 args) w:=enters_of L.fm ai rfl;clear S hcmp ih;go_enter L.fm,Tryz.ntmps271
 by_cases hm1:m=a+1
 ·have TW:(m:Int) - (a:Int)=1:=O;have tZ:m<=a+1:=O;clear hm1;go_wp2;go_loopg [10,11] (b - a) (λkx s1 s2 wr=> ∃ (i j:Nat),s1= G F i/\s2= G F j/\m<=i/\i<=j/\j<=b/\j - i<=kx/\aU (SWK enc k w0 blk off d wr))
  case atStart=>exact⟨m,b,rfl,rfl,aC _,O,aC _,O,S0⟩
  case round=>
   clear S0;obtain⟨i,j,rfl,rfl,hi,hij,hjb,hkx,S1⟩:=hrel
   by_cases hlt:i<j
   ·have ea:(((i:Int)+(j:Int)) / 2).toNat=(i+j) / 2:=O;have pa:(0:Int)<=((i:Int)+(j:Int)) / 2:=O;have ba:((i:Int)+(j:Int)) / 2<(d.size:Int):=O;have ra:F.wrap (((i:Int)+(j:Int)) / 2)=((i:Int)+(j:Int)) / 2:=by rw[rF];omega
    have ec:((a:Int)).toNat=a:=O;have pc:(0:Int)<=(a:Int):=O;have bc:(a:Int)<(d.size:Int):=O;have rc:F.wrap ((a:Int))=(a:Int):=by rw[rF];omega
    have la:=S1.out.ld R O P ((i+j) / 2) O;have lb:=S1.out.ld R O P (a) O;have hc:=S1.out.cmp HC.out O d[(i+j) / 2]! d[a]!;generalize d[(i+j) / 2]! =x at la hc;generalize d[a]! =y at lb hc
    by_cases hv:cf x y<0
    ·have hvd:decide (cf x y<0)=ae:=kK hv;go_wp2_with fail;go_quiet_grown (first|(go_at_fn g;refine Calls.grown_of (hc _ _)));have S2:aU (SWK enc k w0 blk off d (grow (wr.drewN nq) osq)):=S1.out.grown nq osq;clear la lb hc S1;generalize grow (wr.drewN nq) osq=w2 at S2 |-;clear nq osq;go_wp2;go_roundg (j - ((i+j) / 2+1))
     case measure=>omega
     case rel=>exact⟨(i+j) / 2+1,j,by rw[show ((i:Int)+(j:Int)) / 2+1=(((i+j) / 2+1:Nat):Int) by omega],rfl,O,O,hjb,aC _,S2⟩
    ·have hvd:decide (cf x y<0)=ag:=iw hv;go_wp2_with fail;go_quiet_grown (first|(go_at_fn g;refine Calls.grown_of (hc _ _)));have S2:aU (SWK enc k w0 blk off d (grow (wr.drewN nq) osq)):=S1.out.grown nq osq;clear la lb hc S1;generalize grow (wr.drewN nq) osq=w2 at S2 |-;clear nq osq;go_wp2;go_roundg ((i+j) / 2 - i)
     case measure=>omega
     case rel=>exact⟨i,(i+j) / 2,rfl,by rw[show ((i:Int)+(j:Int)) / 2=(((i+j) / 2:Nat):Int) by omega],hi,O,O,aC _,S2⟩
   ·obtain rfl:i=j:=O;go_wp2;go_loopg [13] (b - a) (λky s3 wq=> ∃ (q:Nat) (dk:Array bW),s3= G F q/\a<=q/\q+1<=i/\i - q<=ky/\dk.size=d.size/\aU (dk.toList.Perm d.toList)/\aU (SWK enc k w0 blk off dk wq))
    case atStart=>exact⟨a,d,rfl,aC _,O,O,rfl,oz _,S1⟩
    case round=>
     clear S1;obtain⟨q,dk,rfl,haq,hqi,TN,hds,HP,S1⟩:=hrel
     by_cases hlq:q+1<i
     ·have TT:(q:Int)<(i:Int) - 1:=O;have ea:((q:Int)).toNat=q:=O;have pa:(0:Int)<=(q:Int):=O;have ba:(q:Int)<(d.size:Int):=O;have ra:F.wrap ((q:Int))=(q:Int):=by rw[rF];omega
      have ec:((q:Int)+1).toNat=q+1:=O;have pc:(0:Int)<=(q:Int)+1:=O;have bc:(q:Int)+1<(d.size:Int):=O;have rc:F.wrap ((q:Int)+1)=(q:Int)+1:=by rw[rF];omega
      have S4:aU (SWK enc k w0 blk off (swp dk (q) (q+1)) ((wr.drew.setCells blk (off+(q)*k) (enc dk[q+1]!)).setCells blk (off+(q+1)*k) (enc dk[q]!))):=S1.out.swapped R (q) (q+1) O O;have oH:aU ((swp dk (q) (q+1)).toList.Perm d.toList):=(Pz dk (q) (q+1) O O).trans HP.out;have la:=S1.out.ld1 R O P (q) O;have lb:=S1.out.ld1 R O P (q+1) O;have sa:=S1.out.st1 R O P (q) O dk[q+1]!;have sb:=S1.out.st2 R O P (q) (q+1) O O dk[q+1]! dk[q]!;have na:(enc dk[q]!).length=k:=R.hk _;have nb:(enc dk[q+1]!).length=k:=R.hk _;generalize enc dk[q]! =cI at S4 la sb na;generalize enc dk[q+1]! =cJ at S4 lb sa sb nb;clear S1;go_wp2_with fail;go_big_region_o;clear la lb sa sb;generalize (wr.drew.setCells blk (off+(q)*k) cJ).setCells blk (off+(q+1)*k) cI=w4 at S4 |-;go_wp2;go_roundg (i - (q+1))
      case measure=>omega
      case rel=>exact⟨q+1,swp dk q (q+1),by go_num,O,O,aC _,by rw[size_swp];exact hds,oH,S4⟩
     ·have TT: ¬ (q:Int)<(i:Int) - 1:=O;go_wp2;go_end0;exact⟨rfl,dk,hds,HP.out,S1.out⟩
 ·have TW: ¬ ((m:Int) - (a:Int)=1):=O
  by_cases hm2:b=m+1
  ·have aio:((m:Int) - (a:Int)==1)=ag:=by simpa using TW
   have ZV:(b:Int) - (m:Int)=1:=O;have ap1:b<=m+1:=O;clear hm2;go_wp2;go_loopg [14,15] (m - a) (λkx s1 s2 wr=> ∃ (i j:Nat),s1= G F i/\s2= G F j/\a<=i/\i<=j/\j<=m/\j - i<=kx/\aU (SWK enc k w0 blk off d wr))
   case atStart=>exact⟨a,m,rfl,rfl,aC _,O,aC _,aC _,S0⟩
   case round=>
    clear S0;obtain⟨i,j,rfl,rfl,hi,hij,hjb,hkx,S1⟩:=hrel
    by_cases hlt:i<j
    ·have ea:((m:Int)).toNat=m:=O;have pa:(0:Int)<=(m:Int):=O;have ba:(m:Int)<(d.size:Int):=O;have ra:F.wrap ((m:Int))=(m:Int):=by rw[rF];omega
     have ec:(((i:Int)+(j:Int)) / 2).toNat=(i+j) / 2:=O;have pc:(0:Int)<=((i:Int)+(j:Int)) / 2:=O;have bc:((i:Int)+(j:Int)) / 2<(d.size:Int):=O;have rc:F.wrap (((i:Int)+(j:Int)) / 2)=((i:Int)+(j:Int)) / 2:=by rw[rF];omega
     have la:=S1.out.ld R O P (m) O;have lb:=S1.out.ld R O P ((i+j) / 2) O;have hc:=S1.out.cmp HC.out O d[m]! d[(i+j) / 2]!;generalize d[m]! =x at la hc;generalize d[(i+j) / 2]! =y at lb hc
     by_cases hv:cf x y<0
     ·have hvd:decide (cf x y<0)=ae:=kK hv;go_wp2_with fail;go_quiet_grown (first|(go_at_fn g;refine Calls.grown_of (hc _ _)));have S2:aU (SWK enc k w0 blk off d (grow (wr.drewN nq) osq)):=S1.out.grown nq osq;clear la lb hc S1;generalize grow (wr.drewN nq) osq=w2 at S2 |-;clear nq osq;go_wp2;go_roundg ((i+j) / 2 - i)
      case measure=>omega
      case rel=>exact⟨i,(i+j) / 2,rfl,by rw[show ((i:Int)+(j:Int)) / 2=(((i+j) / 2:Nat):Int) by omega],hi,O,O,aC _,S2⟩
     ·have hvd:decide (cf x y<0)=ag:=iw hv;go_wp2_with fail;go_quiet_grown (first|(go_at_fn g;refine Calls.grown_of (hc _ _)));have S2:aU (SWK enc k w0 blk off d (grow (wr.drewN nq) osq)):=S1.out.grown nq osq;clear la lb hc S1;generalize grow (wr.drewN nq) osq=w2 at S2 |-;clear nq osq;go_wp2;go_roundg (j - ((i+j) / 2+1))
      case measure=>omega
      case rel=>exact⟨(i+j) / 2+1,j,by rw[show ((i:Int)+(j:Int)) / 2+1=(((i+j) / 2+1:Nat):Int) by omega],rfl,O,O,hjb,aC _,S2⟩
    ·obtain rfl:i=j:=O;go_wp2;go_loopg [17] (m - a) (λky s3 wq=> ∃ (q:Nat) (dk:Array bW),s3= G F q/\i<=q/\q<=m/\q - i<=ky/\dk.size=d.size/\aU (dk.toList.Perm d.toList)/\aU (SWK enc k w0 blk off dk wq))
     case atStart=>exact⟨m,d,rfl,O,aC _,O,rfl,oz _,S1⟩
     case round=>
      clear S1;obtain⟨q,dk,rfl,haq,hqi,TN,hds,HP,S1⟩:=hrel
      by_cases hlq:i<q
      ·obtain⟨qp,rfl⟩: ∃ qp,q=qp+1:=⟨q - 1,O⟩;have TT:(i:Int)<(qp:Int)+1:=O;have ea:((qp:Int)+1).toNat=qp+1:=O;have pa:(0:Int)<=(qp:Int)+1:=O;have ba:(qp:Int)+1<(d.size:Int):=O;have ra:F.wrap ((qp:Int)+1)=(qp:Int)+1:=by rw[rF];omega
       have ec:((qp:Int)).toNat=qp:=O;have pc:(0:Int)<=(qp:Int):=O;have bc:(qp:Int)<(d.size:Int):=O;have rc:F.wrap ((qp:Int))=(qp:Int):=by rw[rF];omega
       have S4:aU (SWK enc k w0 blk off (swp dk (qp+1) (qp)) ((wr.drew.setCells blk (off+(qp+1)*k) (enc dk[qp]!)).setCells blk (off+(qp)*k) (enc dk[qp+1]!))):=S1.out.swapped R (qp+1) (qp) O O;have oH:aU ((swp dk (qp+1) (qp)).toList.Perm d.toList):=(Pz dk (qp+1) (qp) O O).trans HP.out;have la:=S1.out.ld1 R O P (qp+1) O;have lb:=S1.out.ld1 R O P (qp) O;have sa:=S1.out.st1 R O P (qp+1) O dk[qp]!;have sb:=S1.out.st2 R O P (qp+1) (qp) O O dk[qp]! dk[qp+1]!;have na:(enc dk[qp+1]!).length=k:=R.hk _;have nb:(enc dk[qp]!).length=k:=R.hk _;generalize enc dk[qp+1]! =cI at S4 la sb na;generalize enc dk[qp]! =cJ at S4 lb sa sb nb;clear S1;go_wp2_with fail;go_big_region_o;clear la lb sa sb;generalize (wr.drew.setCells blk (off+(qp+1)*k) cJ).setCells blk (off+(qp)*k) cI=w4 at S4 |-;go_wp2;go_roundg (qp - i)
       case measure=>omega
       case rel=>exact⟨qp,swp dk (qp+1) qp,by go_num,O,O,aC _,by rw[size_swp];exact hds,oH,S4⟩
      ·have TT: ¬ (i:Int)<(q:Int):=O;go_wp2;go_end0;exact⟨rfl,dk,hds,HP.out,S1.out⟩
  ·have aio:((m:Int) - (a:Int)==1)=ag:=by simpa using TW
   have ZV: ¬ ((b:Int) - (m:Int)=1):=O;have apZ:((b:Int) - (m:Int)==1)=ag:=by simpa using ZV
   obtain⟨mid,hmid⟩: ∃ mid,mid=(a+b) / 2:=⟨_,rfl⟩;have hmz:((a:Int)+(b:Int)) / 2=(mid:Int):=O;have h1:a<mid:=O;have h2:mid<b:=O;have Ay:2*mid<=a+b/\a+b<=2*mid+1:=O;clear hmid
   by_cases hmc:mid<m
   ·have hmm:(mid:Int)<(m:Int):=O;go_wp2;go_loopg [20,21] b (λkx s1 s2 wr=> ∃ (s r:Nat),s1= G F s/\s2= G F r/\mid+m<=s+b/\s<=r/\r<=mid/\r - s<=kx/\aU (SWK enc k w0 blk off d wr))
    case atStart=>exact⟨mid+m - b,mid,by go_num,rfl,O,O,aC _,O,S0⟩
    case round=>
     clear S0;obtain⟨s,r,rfl,rfl,hsl,ET,Uf,hkx,S1⟩:=hrel
     by_cases hlt:s<r
     ·obtain⟨q,hq⟩: ∃ q:Nat,q=mid+m - 1 - (s+r) / 2:=⟨_,rfl⟩;have hqz:(mid:Int)+(m:Int) - 1 - ((s:Int)+(r:Int)) / 2=(q:Int):=O;have hqd:q<d.size:=O;clear hq;have ea:((q:Int)).toNat=q:=O;have pa:(0:Int)<=(q:Int):=O;have ba:(q:Int)<(d.size:Int):=O;have ra:F.wrap ((q:Int))=(q:Int):=by rw[rF];omega
      have ec:(((s:Int)+(r:Int)) / 2).toNat=(s+r) / 2:=O;have pc:(0:Int)<=((s:Int)+(r:Int)) / 2:=O;have bc:((s:Int)+(r:Int)) / 2<(d.size:Int):=O;have rc:F.wrap (((s:Int)+(r:Int)) / 2)=((s:Int)+(r:Int)) / 2:=by rw[rF];omega
      have la:=S1.out.ld R O P (q) O;have lb:=S1.out.ld R O P ((s+r) / 2) O;have hc:=S1.out.cmp HC.out O d[q]! d[(s+r) / 2]!;generalize d[q]! =x at la hc;generalize d[(s+r) / 2]! =y at lb hc
      by_cases hv:cf x y<0
      ·have hvd:decide (cf x y<0)=ae:=kK hv;go_wp2_with fail;go_quiet_grown (first|(go_at_fn g;refine Calls.grown_of (hc _ _)));have S2:aU (SWK enc k w0 blk off d (grow (wr.drewN nq) osq)):=S1.out.grown nq osq;clear la lb hc S1;generalize grow (wr.drewN nq) osq=w2 at S2 |-;clear nq osq;go_wp2;go_roundg ((s+r) / 2 - s)
       case measure=>omega
       case rel=>exact⟨s,(s+r) / 2,rfl,by rw[show ((s:Int)+(r:Int)) / 2=(((s+r) / 2:Nat):Int) by omega],hsl,O,O,aC _,S2⟩
      ·have hvd:decide (cf x y<0)=ag:=iw hv;go_wp2_with fail;go_quiet_grown (first|(go_at_fn g;refine Calls.grown_of (hc _ _)));have S2:aU (SWK enc k w0 blk off d (grow (wr.drewN nq) osq)):=S1.out.grown nq osq;clear la lb hc S1;generalize grow (wr.drewN nq) osq=w2 at S2 |-;clear nq osq;go_wp2;go_roundg (r - ((s+r) / 2+1))
       case measure=>omega
       case rel=>exact⟨(s+r) / 2+1,r,by rw[show ((s:Int)+(r:Int)) / 2+1=(((s+r) / 2+1:Nat):Int) by omega],rfl,O,O,Uf,aC _,S2⟩
     ·obtain rfl:s=r:=O;have hltz: ¬ (s:Int)<(s:Int):=O;clear hkx
      by_cases hx:s<mid
      ·have x1:(s:Int)<(m:Int):=O;have x2:(m:Int)<(mid:Int)+(m:Int) - (s:Int):=O;have x4:(s:Int)<(mid:Int):=O;have x5:(mid:Int)<(mid:Int)+(m:Int) - (s:Int):=O
       by_cases hy:a<s
       ·have x3:(a:Int)<(s:Int):=O
        by_cases hz:mid+m<b+s
        ·have x6:(mid:Int)+(m:Int) - (s:Int)<(b:Int):=O;have HR:aU (∀ (W:Z),SWK enc k w0 blk off d W->aF P 295 #[T (N ⟨blk,off,J⟩) d.size cap,G F s,G F m,G F ((mid:Int)+(m:Int) - (s:Int)),.func (.func g) #[] cb] W (kz enc k w0 blk off d)):=λW hW=>by have h:=KR.out s m (mid+m - s) d W rfl hW O O O;rwa [show ((mid+m - s:Nat):Int)=(mid:Int)+(m:Int) - (s:Int) from O]at h
         have H1:aU (∀ (dk:Array bW) (W:Z),dk.size=d.size->SWK enc k w0 blk off dk W->aF P 271 #[T (N ⟨blk,off,J⟩) d.size cap,G F a,G F s,G F mid,.func (.func g) #[] cb] W (kz enc k w0 blk off dk)):=λdk W hd hW=>KM.out a s mid dk W hd hW O O O O
         have H2:aU (∀ (dk:Array bW) (W:Z),dk.size=d.size->SWK enc k w0 blk off dk W->aF P 271 #[T (N ⟨blk,off,J⟩) d.size cap,G F mid,G F ((mid:Int)+(m:Int) - (s:Int)),G F b,.func (.func g) #[] cb] W (kz enc k w0 blk off dk)):=λdk W hd hW=>by have h:=KM.out mid (mid+m - s) b dk W hd hW O O O O;rwa [show ((mid+m - s:Nat):Int)=(mid:Int)+(m:Int) - (s:Int) from O]at h
         go_wp2_with (first
          |(go_at_fn 295;refine(HR.out _ S1.out).mono ?_;rintro e1 w1 ⟨rfl,d1,h1,hp1,hs1⟩;have T1:aU (SWK enc k w0 blk off d1 w1):=hs1;have Q1:aU (d1.toList.Perm d.toList):=hp1.trans (oz _);replace h1:d1.size=d.size:=O;clear hs1 hp1)
          |(go_at_fn 271;refine(H1.out d1 _ h1 T1.out).mono ?_;rintro e2 w2 ⟨rfl,d2,h2,hp2,hs2⟩;have T2:aU (SWK enc k w0 blk off d2 w2):=hs2;have Q2:aU (d2.toList.Perm d.toList):=hp2.trans Q1.out;replace h2:d2.size=d.size:=O;clear hs2 hp2)
          |(go_at_fn 271;refine(H2.out d2 _ h2 T2.out).mono ?_;rintro e3 w3 ⟨rfl,d3,h3,hp3,hs3⟩;have T3:aU (SWK enc k w0 blk off d3 w3):=hs3;have Q3:aU (d3.toList.Perm d.toList):=hp3.trans Q2.out;replace h3:d3.size=d.size:=O;clear hs3 hp3))
         go_end0;exact⟨rfl,d3,h3,Q3.out,T3.out⟩
        ·have x6: ¬ (mid:Int)+(m:Int) - (s:Int)<(b:Int):=O;have HR:aU (∀ (W:Z),SWK enc k w0 blk off d W->aF P 295 #[T (N ⟨blk,off,J⟩) d.size cap,G F s,G F m,G F ((mid:Int)+(m:Int) - (s:Int)),.func (.func g) #[] cb] W (kz enc k w0 blk off d)):=λW hW=>by have h:=KR.out s m (mid+m - s) d W rfl hW O O O;rwa [show ((mid+m - s:Nat):Int)=(mid:Int)+(m:Int) - (s:Int) from O]at h
         have H1:aU (∀ (dk:Array bW) (W:Z),dk.size=d.size->SWK enc k w0 blk off dk W->aF P 271 #[T (N ⟨blk,off,J⟩) d.size cap,G F a,G F s,G F mid,.func (.func g) #[] cb] W (kz enc k w0 blk off dk)):=λdk W hd hW=>KM.out a s mid dk W hd hW O O O O
         go_wp2_with (first
          |(go_at_fn 295;refine(HR.out _ S1.out).mono ?_;rintro e1 w1 ⟨rfl,d1,h1,hp1,hs1⟩;have T1:aU (SWK enc k w0 blk off d1 w1):=hs1;have Q1:aU (d1.toList.Perm d.toList):=hp1.trans (oz _);replace h1:d1.size=d.size:=O;clear hs1 hp1)
          |(go_at_fn 271;refine(H1.out d1 _ h1 T1.out).mono ?_;rintro e2 w2 ⟨rfl,d2,h2,hp2,hs2⟩;have T2:aU (SWK enc k w0 blk off d2 w2):=hs2;have Q2:aU (d2.toList.Perm d.toList):=hp2.trans Q1.out;replace h2:d2.size=d.size:=O;clear hs2 hp2))
         go_end0;exact⟨rfl,d2,h2,Q2.out,T2.out⟩
       ·have x3: ¬ (a:Int)<(s:Int):=O
        by_cases hz:mid+m<b+s
        ·have x6:(mid:Int)+(m:Int) - (s:Int)<(b:Int):=O;have HR:aU (∀ (W:Z),SWK enc k w0 blk off d W->aF P 295 #[T (N ⟨blk,off,J⟩) d.size cap,G F s,G F m,G F ((mid:Int)+(m:Int) - (s:Int)),.func (.func g) #[] cb] W (kz enc k w0 blk off d)):=λW hW=>by have h:=KR.out s m (mid+m - s) d W rfl hW O O O;rwa [show ((mid+m - s:Nat):Int)=(mid:Int)+(m:Int) - (s:Int) from O]at h
         have H2:aU (∀ (dk:Array bW) (W:Z),dk.size=d.size->SWK enc k w0 blk off dk W->aF P 271 #[T (N ⟨blk,off,J⟩) d.size cap,G F mid,G F ((mid:Int)+(m:Int) - (s:Int)),G F b,.func (.func g) #[] cb] W (kz enc k w0 blk off dk)):=λdk W hd hW=>by have h:=KM.out mid (mid+m - s) b dk W hd hW O O O O;rwa [show ((mid+m - s:Nat):Int)=(mid:Int)+(m:Int) - (s:Int) from O]at h
         go_wp2_with (first
          |(go_at_fn 295;refine(HR.out _ S1.out).mono ?_;rintro e1 w1 ⟨rfl,d1,h1,hp1,hs1⟩;have T1:aU (SWK enc k w0 blk off d1 w1):=hs1;have Q1:aU (d1.toList.Perm d.toList):=hp1.trans (oz _);replace h1:d1.size=d.size:=O;clear hs1 hp1)
          |(go_at_fn 271;refine(H2.out d1 _ h1 T1.out).mono ?_;rintro e2 w2 ⟨rfl,d2,h2,hp2,hs2⟩;have T2:aU (SWK enc k w0 blk off d2 w2):=hs2;have Q2:aU (d2.toList.Perm d.toList):=hp2.trans Q1.out;replace h2:d2.size=d.size:=O;clear hs2 hp2))
         go_end0;exact⟨rfl,d2,h2,Q2.out,T2.out⟩
        ·have x6: ¬ (mid:Int)+(m:Int) - (s:Int)<(b:Int):=O;have HR:aU (∀ (W:Z),SWK enc k w0 blk off d W->aF P 295 #[T (N ⟨blk,off,J⟩) d.size cap,G F s,G F m,G F ((mid:Int)+(m:Int) - (s:Int)),.func (.func g) #[] cb] W (kz enc k w0 blk off d)):=λW hW=>by have h:=KR.out s m (mid+m - s) d W rfl hW O O O;rwa [show ((mid+m - s:Nat):Int)=(mid:Int)+(m:Int) - (s:Int) from O]at h
         go_wp2_with (first
          |(go_at_fn 295;refine(HR.out _ S1.out).mono ?_;rintro e1 w1 ⟨rfl,d1,h1,hp1,hs1⟩;have T1:aU (SWK enc k w0 blk off d1 w1):=hs1;have Q1:aU (d1.toList.Perm d.toList):=hp1.trans (oz _);replace h1:d1.size=d.size:=O;clear hs1 hp1))
         go_end0;exact⟨rfl,d1,h1,Q1.out,T1.out⟩
      ·have x1:(s:Int)<(m:Int):=O;have x2: ¬ (m:Int)<(mid:Int)+(m:Int) - (s:Int):=O;have x3:(a:Int)<(s:Int):=O;have x4: ¬ (s:Int)<(mid:Int):=O;have x5:(mid:Int)<(mid:Int)+(m:Int) - (s:Int):=O
       by_cases hz:mid+m<b+s
       ·have x6:(mid:Int)+(m:Int) - (s:Int)<(b:Int):=O;have H2:aU (∀ (dk:Array bW) (W:Z),dk.size=d.size->SWK enc k w0 blk off dk W->aF P 271 #[T (N ⟨blk,off,J⟩) d.size cap,G F mid,G F ((mid:Int)+(m:Int) - (s:Int)),G F b,.func (.func g) #[] cb] W (kz enc k w0 blk off dk)):=λdk W hd hW=>by have h:=KM.out mid (mid+m - s) b dk W hd hW O O O O;rwa [show ((mid+m - s:Nat):Int)=(mid:Int)+(m:Int) - (s:Int) from O]at h
        go_wp2_with (first
         |(go_at_fn 271;refine(H2.out d _ rfl S1.out).mono ?_;rintro e1 w1 ⟨rfl,d1,h1,hp1,hs1⟩;have T1:aU (SWK enc k w0 blk off d1 w1):=hs1;have Q1:aU (d1.toList.Perm d.toList):=hp1.trans (oz _);replace h1:d1.size=d.size:=O;clear hs1 hp1))
        go_end0;exact⟨rfl,d1,h1,Q1.out,T1.out⟩
       ·have x6: ¬ (mid:Int)+(m:Int) - (s:Int)<(b:Int):=O;go_wp2;go_end0;exact⟨rfl,d,rfl,oz _,S1.out⟩
   ·have hmm: ¬ (mid:Int)<(m:Int):=O;go_wp2;go_loopg [20,21] b (λkx s1 s2 wr=> ∃ (s r:Nat),s1= G F s/\s2= G F r/\a<=s/\s<=r/\r<=m/\r - s<=kx/\aU (SWK enc k w0 blk off d wr))
    case atStart=>exact⟨a,m,rfl,rfl,aC _,O,aC _,O,S0⟩
    case round=>
     clear S0;obtain⟨s,r,rfl,rfl,hsl,ET,Uf,hkx,S1⟩:=hrel
     by_cases hlt:s<r
     ·obtain⟨q,hq⟩: ∃ q:Nat,q=mid+m - 1 - (s+r) / 2:=⟨_,rfl⟩;have hqz:(mid:Int)+(m:Int) - 1 - ((s:Int)+(r:Int)) / 2=(q:Int):=O;have hqd:q<d.size:=O;clear hq;have ea:((q:Int)).toNat=q:=O;have pa:(0:Int)<=(q:Int):=O;have ba:(q:Int)<(d.size:Int):=O;have ra:F.wrap ((q:Int))=(q:Int):=by rw[rF];omega
      have ec:(((s:Int)+(r:Int)) / 2).toNat=(s+r) / 2:=O;have pc:(0:Int)<=((s:Int)+(r:Int)) / 2:=O;have bc:((s:Int)+(r:Int)) / 2<(d.size:Int):=O;have rc:F.wrap (((s:Int)+(r:Int)) / 2)=((s:Int)+(r:Int)) / 2:=by rw[rF];omega
      have la:=S1.out.ld R O P (q) O;have lb:=S1.out.ld R O P ((s+r) / 2) O;have hc:=S1.out.cmp HC.out O d[q]! d[(s+r) / 2]!;generalize d[q]! =x at la hc;generalize d[(s+r) / 2]! =y at lb hc
      by_cases hv:cf x y<0
      ·have hvd:decide (cf x y<0)=ae:=kK hv;go_wp2_with fail;go_quiet_grown (first|(go_at_fn g;refine Calls.grown_of (hc _ _)));have S2:aU (SWK enc k w0 blk off d (grow (wr.drewN nq) osq)):=S1.out.grown nq osq;clear la lb hc S1;generalize grow (wr.drewN nq) osq=w2 at S2 |-;clear nq osq;go_wp2;go_roundg ((s+r) / 2 - s)
       case measure=>omega
       case rel=>exact⟨s,(s+r) / 2,rfl,by rw[show ((s:Int)+(r:Int)) / 2=(((s+r) / 2:Nat):Int) by omega],hsl,O,O,aC _,S2⟩
      ·have hvd:decide (cf x y<0)=ag:=iw hv;go_wp2_with fail;go_quiet_grown (first|(go_at_fn g;refine Calls.grown_of (hc _ _)));have S2:aU (SWK enc k w0 blk off d (grow (wr.drewN nq) osq)):=S1.out.grown nq osq;clear la lb hc S1;generalize grow (wr.drewN nq) osq=w2 at S2 |-;clear nq osq;go_wp2;go_roundg (r - ((s+r) / 2+1))
       case measure=>omega
       case rel=>exact⟨(s+r) / 2+1,r,by rw[show ((s:Int)+(r:Int)) / 2+1=(((s+r) / 2+1:Nat):Int) by omega],rfl,O,O,Uf,aC _,S2⟩
     ·obtain rfl:s=r:=O;have hltz: ¬ (s:Int)<(s:Int):=O;clear hkx
      by_cases hx:s<m
      ·have x1:(s:Int)<(m:Int):=O;have x2:(m:Int)<(mid:Int)+(m:Int) - (s:Int):=O;have x4:(s:Int)<(mid:Int):=O;have x5:(mid:Int)<(mid:Int)+(m:Int) - (s:Int):=O
       by_cases hy:a<s
       ·have x3:(a:Int)<(s:Int):=O
        by_cases hz:mid+m<b+s
        ·have x6:(mid:Int)+(m:Int) - (s:Int)<(b:Int):=O;have HR:aU (∀ (W:Z),SWK enc k w0 blk off d W->aF P 295 #[T (N ⟨blk,off,J⟩) d.size cap,G F s,G F m,G F ((mid:Int)+(m:Int) - (s:Int)),.func (.func g) #[] cb] W (kz enc k w0 blk off d)):=λW hW=>by have h:=KR.out s m (mid+m - s) d W rfl hW O O O;rwa [show ((mid+m - s:Nat):Int)=(mid:Int)+(m:Int) - (s:Int) from O]at h
         have H1:aU (∀ (dk:Array bW) (W:Z),dk.size=d.size->SWK enc k w0 blk off dk W->aF P 271 #[T (N ⟨blk,off,J⟩) d.size cap,G F a,G F s,G F mid,.func (.func g) #[] cb] W (kz enc k w0 blk off dk)):=λdk W hd hW=>KM.out a s mid dk W hd hW O O O O
         have H2:aU (∀ (dk:Array bW) (W:Z),dk.size=d.size->SWK enc k w0 blk off dk W->aF P 271 #[T (N ⟨blk,off,J⟩) d.size cap,G F mid,G F ((mid:Int)+(m:Int) - (s:Int)),G F b,.func (.func g) #[] cb] W (kz enc k w0 blk off dk)):=λdk W hd hW=>by have h:=KM.out mid (mid+m - s) b dk W hd hW O O O O;rwa [show ((mid+m - s:Nat):Int)=(mid:Int)+(m:Int) - (s:Int) from O]at h
         go_wp2_with (first
          |(go_at_fn 295;refine(HR.out _ S1.out).mono ?_;rintro e1 w1 ⟨rfl,d1,h1,hp1,hs1⟩;have T1:aU (SWK enc k w0 blk off d1 w1):=hs1;have Q1:aU (d1.toList.Perm d.toList):=hp1.trans (oz _);replace h1:d1.size=d.size:=O;clear hs1 hp1)
          |(go_at_fn 271;refine(H1.out d1 _ h1 T1.out).mono ?_;rintro e2 w2 ⟨rfl,d2,h2,hp2,hs2⟩;have T2:aU (SWK enc k w0 blk off d2 w2):=hs2;have Q2:aU (d2.toList.Perm d.toList):=hp2.trans Q1.out;replace h2:d2.size=d.size:=O;clear hs2 hp2)
          |(go_at_fn 271;refine(H2.out d2 _ h2 T2.out).mono ?_;rintro e3 w3 ⟨rfl,d3,h3,hp3,hs3⟩;have T3:aU (SWK enc k w0 blk off d3 w3):=hs3;have Q3:aU (d3.toList.Perm d.toList):=hp3.trans Q2.out;replace h3:d3.size=d.size:=O;clear hs3 hp3))
         go_end0;exact⟨rfl,d3,h3,Q3.out,T3.out⟩
        ·exfalso;omega
       ·have x3: ¬ (a:Int)<(s:Int):=O
        by_cases hz:mid+m<b+s
        ·have x6:(mid:Int)+(m:Int) - (s:Int)<(b:Int):=O;have HR:aU (∀ (W:Z),SWK enc k w0 blk off d W->aF P 295 #[T (N ⟨blk,off,J⟩) d.size cap,G F s,G F m,G F ((mid:Int)+(m:Int) - (s:Int)),.func (.func g) #[] cb] W (kz enc k w0 blk off d)):=λW hW=>by have h:=KR.out s m (mid+m - s) d W rfl hW O O O;rwa [show ((mid+m - s:Nat):Int)=(mid:Int)+(m:Int) - (s:Int) from O]at h
         have H2:aU (∀ (dk:Array bW) (W:Z),dk.size=d.size->SWK enc k w0 blk off dk W->aF P 271 #[T (N ⟨blk,off,J⟩) d.size cap,G F mid,G F ((mid:Int)+(m:Int) - (s:Int)),G F b,.func (.func g) #[] cb] W (kz enc k w0 blk off dk)):=λdk W hd hW=>by have h:=KM.out mid (mid+m - s) b dk W hd hW O O O O;rwa [show ((mid+m - s:Nat):Int)=(mid:Int)+(m:Int) - (s:Int) from O]at h
         go_wp2_with (first
          |(go_at_fn 295;refine(HR.out _ S1.out).mono ?_;rintro e1 w1 ⟨rfl,d1,h1,hp1,hs1⟩;have T1:aU (SWK enc k w0 blk off d1 w1):=hs1;have Q1:aU (d1.toList.Perm d.toList):=hp1.trans (oz _);replace h1:d1.size=d.size:=O;clear hs1 hp1)
          |(go_at_fn 271;refine(H2.out d1 _ h1 T1.out).mono ?_;rintro e2 w2 ⟨rfl,d2,h2,hp2,hs2⟩;have T2:aU (SWK enc k w0 blk off d2 w2):=hs2;have Q2:aU (d2.toList.Perm d.toList):=hp2.trans Q1.out;replace h2:d2.size=d.size:=O;clear hs2 hp2))
         go_end0;exact⟨rfl,d2,h2,Q2.out,T2.out⟩
        ·have x6: ¬ (mid:Int)+(m:Int) - (s:Int)<(b:Int):=O;have HR:aU (∀ (W:Z),SWK enc k w0 blk off d W->aF P 295 #[T (N ⟨blk,off,J⟩) d.size cap,G F s,G F m,G F ((mid:Int)+(m:Int) - (s:Int)),.func (.func g) #[] cb] W (kz enc k w0 blk off d)):=λW hW=>by have h:=KR.out s m (mid+m - s) d W rfl hW O O O;rwa [show ((mid+m - s:Nat):Int)=(mid:Int)+(m:Int) - (s:Int) from O]at h
         go_wp2_with (first
          |(go_at_fn 295;refine(HR.out _ S1.out).mono ?_;rintro e1 w1 ⟨rfl,d1,h1,hp1,hs1⟩;have T1:aU (SWK enc k w0 blk off d1 w1):=hs1;have Q1:aU (d1.toList.Perm d.toList):=hp1.trans (oz _);replace h1:d1.size=d.size:=O;clear hs1 hp1))
         go_end0;exact⟨rfl,d1,h1,Q1.out,T1.out⟩
      ·have x1: ¬ (s:Int)<(m:Int):=O;have x3:(a:Int)<(s:Int):=O;have x5: ¬ (mid:Int)<(mid:Int)+(m:Int) - (s:Int):=O
       by_cases hz:s<mid
       ·have x4:(s:Int)<(mid:Int):=O;have H1:aU (∀ (dk:Array bW) (W:Z),dk.size=d.size->SWK enc k w0 blk off dk W->aF P 271 #[T (N ⟨blk,off,J⟩) d.size cap,G F a,G F s,G F mid,.func (.func g) #[] cb] W (kz enc k w0 blk off dk)):=λdk W hd hW=>KM.out a s mid dk W hd hW O O O O
        go_wp2_with (first
         |(go_at_fn 271;refine(H1.out d _ rfl S1.out).mono ?_;rintro e1 w1 ⟨rfl,d1,h1,hp1,hs1⟩;have T1:aU (SWK enc k w0 blk off d1 w1):=hs1;have Q1:aU (d1.toList.Perm d.toList):=hp1.trans (oz _);replace h1:d1.size=d.size:=O;clear hs1 hp1))
        go_end0;exact⟨rfl,d1,h1,Q1.out,T1.out⟩
       ·have x4: ¬ (s:Int)<(mid:Int):=O;go_wp2;go_end0;exact⟨rfl,d,rfl,oz _,S1.out⟩
end
section
open Go.Shelf Go.RowKit Go.Lib Go.Sort
variable {P:dH} {k:Nat} (L:xQ P k) (enc:bW->List aj) (cf:bW->bW->Int) (g:Nat) (cb:Array aj) (blk off cap:Nat) (d0 d:Array bW) (w0 w:Z)
theorem aol (L:xQ P k) (eg: ∀ args w,(callFunc g args).run P w= .ok (.enter g args) w) (hcmp:CmpLays P g cb enc k cf blk off d0.size w0) (R:RowK enc k w0 blk off d0) (hs:d0.size=d.size) (S:SWK enc k w0 blk off d w) (hsz:d.size<1000000000):
 aF P 241 #[T (N ⟨blk,off,J⟩) d.size cap,G F d.size,.func (.func g) #[] cb] w (kz enc k w0 blk off d):=by
 have mixed:=L.mixed;have t0:=L.t0;have a0:=L.a0;have z0:=L.z0;have v0:=L.v0;have t1:=L.t1;have a1:=L.a1;have z1:=L.z1;have v1:=L.v1;have t2:=L.t2;have a2:=L.a2;have z2:=L.z2;have v2:=L.v2;have t3:=L.t3;have a3:=L.a3;have z3:=L.z3;have v3:=L.v3;have t4:=L.t4;have a4:=L.a4;have z4:=L.z4;have v4:=L.v4;have t5:=L.t5;have a5:=L.a5;have z5:=L.z5;have v5:=L.v5;have aE:=L.aE;have zE:=L.zE;have u4:=kY L.t4;have u1:=kY L.t1;have S0:aU (SWK enc k w0 blk off d w):=S;have KM:aU (∀ (x y z:Nat) (dk:Array bW) (W:Z),dk.size=d.size->SWK enc k w0 blk off dk W->x<y->y<z->z<=d.size->aF P 271 #[T (N ⟨blk,off,J⟩) d.size cap,G F x,G F y,G F z,.func (.func g) #[] cb] W (kz enc k w0 blk off dk)):=λx y z dk W hd hS h1 h2 h3=>by
  have:=aoi enc cf g cb blk off cap d0 dk w0 W L z x y z O eg hcmp R O hS h1 h2 O O
  rwa [hd]at this
 have KI:aU (∀ (x y:Nat) (dk:Array bW) (W:Z),dk.size=d.size->SWK enc k w0 blk off dk W->x<=d.size->y<=d.size->aF P 270 #[T (N ⟨blk,off,J⟩) d.size cap,G F x,G F y,.func (.func g) #[] cb] W (kz enc k w0 blk off dk)):=λx y dk W hd hS h1 h2=>by
  have:=aoh enc cf g cb blk off cap d0 dk w0 W L x y eg hcmp R O hS O O O
  rwa [hd]at this
 have es: ∀ args w,(callFunc 270 args).run P w= .ok (.enter 270 args) w:=enters_of L.fi ai rfl;have em: ∀ args w,(callFunc 271 args).run P w= .ok (.enter 271 args) w:=enters_of L.fm ai rfl;clear S hcmp;go_enter L.ft,Tryz.ntmps241;go_wp2;go_loopg [7,8] d.size (λkx s1 s2 wr=> ∃ (a:Nat) (dk:Array bW),s1= G F a/\s2= G F ((a+20:Nat):Int)/\a<=d.size/\d.size - a<=kx/\dk.size=d.size/\aU (dk.toList.Perm d.toList)/\aU (SWK enc k w0 blk off dk wr))
 case atStart=>exact⟨0,d,rfl,rfl,lq _,aC _,rfl,oz _,S0⟩
 case round=>
  clear S0;obtain⟨a,dk,rfl,rfl,had,hkx,hds,HP,S1⟩:=hrel;obtain⟨b,hb⟩: ∃ b:Nat,b=a+20:=⟨_,rfl⟩;rw[<- hb];have hb1:b<=a+20:=O;have hb2:a+20<=b:=O;clear hb
  by_cases hle:b<=d.size
  ·have hlez:(b:Int)<=(d.size:Int):=O;have hc:=KI.out a b dk wr hds S1.out had hle;go_wp2_with (go_at_fn 270;refine hc.mono ?_;rintro e w1 ⟨rfl,d1,h1,hp1,hs1⟩;have T1:aU (SWK enc k w0 blk off d1 w1):=hs1;have Q1:aU (d1.toList.Perm d.toList):=hp1.trans HP.out;replace h1:d1.size=d.size:=O;clear hs1 hp1);go_roundg (d.size - b)
   case measure=>omega
   case rel=>exact⟨b,d1,rfl,by go_num,hle,aC _,h1,Q1,T1⟩
  ·have hlez: ¬ (b:Int)<=(d.size:Int):=O;have hc:=KI.out a d.size dk wr hds S1.out had (aC _);go_wp2_with (go_at_fn 270;refine hc.mono ?_;rintro e w1 ⟨rfl,d1,h1,hp1,hs1⟩;have T1:aU (SWK enc k w0 blk off d1 w1):=hs1;have Q1:aU (d1.toList.Perm d.toList):=hp1.trans HP.out;replace h1:d1.size=d.size:=O;clear hs1 hp1);clear hb1 hb2 hle hlez S1 HP hc;go_loopg [6,7,8,9] d.size (λkx s0 s1 s2 s3 wr=> ∃ (bs a b:Nat) (dk:Array bW),s0= G F bs/\s1= G F a/\s2= G F b/\1<=bs/\bs<=2*d.size+20/\d.size - bs<=kx/\dk.size=d.size/\aU (dk.toList.Perm d.toList)/\aU (SWK enc k w0 blk off dk wr))
   case atStart=>exact⟨20,a,b,d1,rfl,rfl,rfl,O,O,O,h1,Q1,T1⟩
   case round=>
    clear T1 Q1 h1;obtain⟨bs,a2,b2,d2,rfl,rfl,rfl,hbs,apI,TN,hd2,HP,S1⟩:=hrel
    by_cases hlt:bs<d.size
    ·have hltz:(bs:Int)<(d.size:Int):=O;go_wp2;go_loopg [7,8] d.size (λkx s1 s2 wr=> ∃ (x:Nat) (dk:Array bW),s1= G F x/\s2= G F ((x+2*bs:Nat):Int)/\x<=d.size/\d.size - x<=kx/\dk.size=d.size/\aU (dk.toList.Perm d.toList)/\aU (SWK enc k w0 blk off dk wr))
     case atStart=>exact⟨0,d2,rfl,by go_num,lq _,aC _,hd2,HP,S1⟩
     case round=>
      clear S1 HP;obtain⟨x,d3,rfl,rfl,hxd,hkz,hd3,HP,S1⟩:=hrel;obtain⟨y,hy⟩: ∃ y:Nat,y=x+2*bs:=⟨_,rfl⟩;rw[<- hy];have hy1:y<=x+2*bs:=O;have hy2:x+2*bs<=y:=O;clear hy
      by_cases hle:y<=d.size
      ·have hlez:(y:Int)<=(d.size:Int):=O;have hc:=KM.out x (x+bs) y d3 wr hd3 S1.out O O hle;rw[show ((x+bs:Nat):Int)=(x:Int)+(bs:Int) from O]at hc;go_wp2_with (go_at_fn 271;refine hc.mono ?_;rintro e w4 ⟨rfl,d4,h4,K7,hs4⟩;have T4:aU (SWK enc k w0 blk off d4 w4):=hs4;have Q4:aU (d4.toList.Perm d.toList):=K7.trans HP.out;replace h4:d4.size=d.size:=O;clear hs4 K7);go_roundg (d.size - y)
       case measure=>omega
       case rel=>exact⟨y,d4,rfl,by go_num,hle,aC _,h4,Q4,T4⟩
      ·have hlez: ¬ (y:Int)<=(d.size:Int):=O
       by_cases hm:x+bs<d.size
       ·have hmz:(x:Int)+(bs:Int)<(d.size:Int):=O;have hc:=KM.out x (x+bs) d.size d3 wr hd3 S1.out O hm (aC _);rw[show ((x+bs:Nat):Int)=(x:Int)+(bs:Int) from O]at hc;go_wp2_with (go_at_fn 271;refine hc.mono ?_;rintro e w4 ⟨rfl,d4,h4,K7,hs4⟩;have T4:aU (SWK enc k w0 blk off d4 w4):=hs4;have Q4:aU (d4.toList.Perm d.toList):=K7.trans HP.out;replace h4:d4.size=d.size:=O;clear hs4 K7);go_roundg (d.size - 2*bs)
        case measure=>omega
        case rel=>exact⟨2*bs,x,y,d4,by go_num,rfl,rfl,O,O,aC _,h4,Q4,T4⟩
       ·have hmz: ¬ (x:Int)+(bs:Int)<(d.size:Int):=O;go_wp2;go_roundg (d.size - 2*bs)
        case measure=>omega
        case rel=>exact⟨2*bs,x,y,d3,by go_num,rfl,rfl,O,O,aC _,hd3,HP,S1⟩
    ·have hltz: ¬ (bs:Int)<(d.size:Int):=O;go_wp2;go_end0;exact⟨rfl,d2,hd2,HP.out,S1.out⟩
theorem aok (L:xQ P k) (eg: ∀ args w,(callFunc g args).run P w= .ok (.enter g args) w) (hcmp:CmpLays P g cb enc k cf blk off d0.size w0) (R:RowK enc k w0 blk off d0) (hs:d0.size=d.size) (S:SWK enc k w0 blk off d w) (hsz:d.size<1000000000):
 aF P 189 #[T (N ⟨blk,off,J⟩) d.size cap,.func (.func g) #[] cb] w (kz enc k w0 blk off d):=by
 have mixed:=L.mixed;have t0:=L.t0;have a0:=L.a0;have z0:=L.z0;have v0:=L.v0;have t1:=L.t1;have a1:=L.a1;have z1:=L.z1;have v1:=L.v1;have t2:=L.t2;have a2:=L.a2;have z2:=L.z2;have v2:=L.v2;have t3:=L.t3;have a3:=L.a3;have z3:=L.z3;have v3:=L.v3;have t4:=L.t4;have a4:=L.a4;have z4:=L.z4;have v4:=L.v4;have t5:=L.t5;have a5:=L.a5;have z5:=L.z5;have v5:=L.v5;have aE:=L.aE;have zE:=L.zE;have u4:=kY L.t4;have u1:=kY L.t1;have hc:=aol enc cf g cb blk off cap d0 d w0 w L eg hcmp R hs S hsz;have es: ∀ args w,(callFunc 241 args).run P w= .ok (.enter 241 args) w:=enters_of L.ft ai rfl;clear S hcmp;go_enter L.fe,Tryz.ntmps189;go_wp2_with (go_at_fn 241;refine hc.mono ?_;rintro e w1 ⟨rfl,h1⟩);go_end0;exact⟨rfl,h1⟩
theorem stF:xQ ak 8:=by
 refine⟨by kernel_rfl,Tryz.func305,Tryz.func295,Tryz.func270,Tryz.func271,Tryz.func241,Tryz.func189,
  Tryz.underlying0,Tryz.isAgg0,Tryz.sizeOf0,Tryz.zeroValue0,dh,Tryz.isAgg3,Tryz.sizeOf3,Tryz.zeroValue3,iX,Tryz.isAgg4,Tryz.sizeOf4,Tryz.zeroValue4,Tryz.underlying149,Tryz.isAgg149,Tryz.sizeOf149,Tryz.zeroValue149,Tryz.underlying173,Tryz.isAgg173,Tryz.sizeOf173,Tryz.zeroValue173,
  Tryz.underlying287,Tryz.isAgg287,Tryz.sizeOf287,Tryz.zeroValue287,Tryz.isAgg176,Tryz.sizeOf176⟩
end
end Go.Proofs.YtbedbfdhfokifaaGreat
