/- Part of the proof of WholeMatching. -/
import Derived.Test.YtbedbfdhfokifaaGreatJBC
namespace Go.Proofs.YtbedbfdhfokifaaGreat
set_option maxRecDepth 100000
set_option maxHeartbeats 16000000
set_option linter.unusedVariables false
set_option linter.unusedSimpArgs false
open _root_.Array renaming replicate->kZ
open _root_.Bool renaming true->ae,false->ag
open Go renaming World->Z,Calls->aF,Addr->aG,Value->aj,Ending->eG
open Go.Fence renaming wide->lC
open Go.IntKind renaming i64->F
open Go.Obj renaming cells->U
open Go.Proofs.Tryz renaming prog->ak
open Go.Sort renaming grow->aa9
open Go.Value renaming int->G,slice->T,bool->aA,tuple->bG
open _root_.Option renaming none->J,some->N
open Go.RowKit
theorem akf: ∀ args w,(callFunc 95 args).run ak w= .ok (.enter 95 args) w:=enters_of Tryz.func95 ai rfl
theorem afr (x y:Int):Ey x y<0↔(-mF x< -mF y\/(-mF x= -mF y/\(0:Int)<0)):=by
 unfold Ey
 by_cases h1:mF y<mF x
 ·rw[bB h1];omega
 ·rw[bE h1]
  by_cases h2:mF x<mF y
  ·rw[bB h2];omega
  ·rw[bE h2];omega
theorem akg (base:Nat) (v:aj) (l:List Int) (W:Z) (hl:l.length<1000000000) (h:W.ownsRow base 149 1 v l.length (AQ l)):
 aF ak 94 #[v,.func (.func 95) #[] #[]] W (XO base v l W):=by
 refine(akV (α:=Int) (enc:=G .u64) Tryz.an6 (λx=>rfl) Ey (Py (λa=> -mF a) (λ_=>0) Ey afr) 95 #[] akf (w:=W) (λblk off size m os dk hs x y=> ?_) hl h).mono ?_
 ·exact(aos x y _).mono λe w' ⟨h1,h2⟩=>⟨h1,0,#[],by rw[h2];simp[aa9,World.drewN]⟩
 ·rintro e w' ⟨h1,l2,h2,h3,h4⟩;exact⟨h1,l2,h2,h3,h4⟩
def AY (p:dK):List aO×List aO:=(p.left.l,p.right.l)
def O4 (p:dK):List aO×List aO:=(p.right.l,p.left.l)
theorem alE:RY 28 AY:=λB r s W hB hs=>by
 refine(alD W r (T s.A s.l.length s.cap) ⟨_,_,_,rfl⟩).mono ?_;rintro e w' ⟨b,rfl,h1,h2,h3⟩;exact⟨⟨⟨[r],N ⟨b,0,J⟩,1⟩,s⟩,rfl,rfl,LB.uT h1 rfl O,hs.step h3,h3⟩
theorem alG:RY 29 O4:=λB r s W hB hs=>by
 refine(alF W r (T s.A s.l.length s.cap) ⟨_,_,_,rfl⟩).mono ?_;rintro e w' ⟨b,rfl,h1,h2,h3⟩;exact⟨⟨s,⟨[r],N ⟨b,0,J⟩,1⟩⟩,rfl,rfl,hs.step h3,LB.uT h1 rfl O,h3⟩
theorem X5 (n:Nat):uL (List.replicate n ag)=kZ n (aA ag):=by
 unfold uL;rw[List.map_replicate];simp
def fits (L R:List bH) (aZ:Int):Prop:= ∃ h0:0<L.length,∃ k,∃ hk:k<R.length,Mt.fit aZ L[0].amount R[k].amount=ae
def NJ (L R:List bH) (aZ:Int) (w:Z) (e:eG) (w':Z):Prop:=Below w.heap.size w w'/\
 ((∃ E:Int,E≠0/\e= .returned (bG #[T J 0 0,G F E])/\ ¬ (Mt.nA L R/\0<=aZ/\aZ<=1000000000000))\/
  (∃ vo out u v,e= .returned (.tuple #[vo,G F 0])/\Mt.Inv L R aZ u v (Mt.nJ out)/\w'.ownsRow w.heap.size 56 2 vo out.length (cellsOf dK.cells out)/\(∀ p∈out,pE w' w.heap.size p.left/\pE w' w.heap.size p.right)/\(fits L R aZ->out≠ [])/\Mt.nA L R))
theorem YH {X:Z} {B:Nat} (hB:B<=X.heap.size) (u v:List Bool) (fa:Array aj) (h5:fa[5]? =N (T J 0 0)):
 fU (((X.alloc (U (uL u) 4)).alloc (U (uL v) 4)).alloc (U fa 92)) B (X.heap.size+1+1) fa X.heap.size (X.heap.size+1) u v (T J 0 0) []:=by
 have e:fa.setIfInBounds 5 (T J 0 0)=fa:=by
  have hz:5<fa.size:=(nM.1 h5).1;apply Array.ext
  ·simp
  ·intro i h1 h2;rw[Iy]
   split
   ·rename_i hi;subst hi;exact((nM.1 h5).2).symm
   ·rfl
 refine⟨by rw[e];have:=au.new ((X.alloc (U (uL u) 4)).alloc (U (uL v) 4)) 92 fa;rwa [fG,fG]at this,O,((au.new X _ _).alloc _).alloc _,hB,(eT X _ _ _).alloc _,O,O,jZ _ _ _ _,aL⟩
theorem Mt.nA.iB {L R:List bH} (h:Mt.nA L R):(∀ x∈L,-1000000000000<=x.amount/\x.amount<=1000000000000)/\(∀ x∈R,-1000000000000<=x.amount/\x.amount<=1000000000000):=by
 have H: ∀ x∈L++R,-1000000000000<=x.amount/\x.amount<=1000000000000:=λx hx=>by
  obtain⟨k,hk,rfl⟩:=iK.1 hx;have:=h.2.2 k hk;exact⟨this.2.2.2,this.2.2.1⟩
 exact⟨λx hx=>H x (il.2 (.inl hx)),λx hx=>H x (il.2 (.inr hx))⟩
section
variable (w:Z)
theorem abh (L R:List bH) (A1 A2:Option aG) (c1 c2:Nat) (aZ:Int) (h1:Rd w w.heap.size 3 A1 L.length (cellsOf bH.cells L)) (h2:Rd w w.heap.size 3 A2 R.length (cellsOf bH.cells R)) (hw: ∀ x∈L++R,Wf x.ref.entry/\Wf x.ref.line):
 aF ak 9 #[T A1 L.length c1,T A2 R.length c2,G F aZ] w (NJ L R aZ w):=by
 have HL:=I h1;have HR:=I h2;have RJ:=I (aks w L R A1 A2 c1 c2 h1 h2 hw);clear h1 h2 hw;unfold NJ
 by_cases hok:Mt.nA L R
 case neg=>
  have KL:Hid (aF ak 25 #[T A1 L.length c1,T A2 R.length c2] w λe w'=>e= .returned (aA ag)/\Below w.heap.size w w'):=I (RJ.out.mono λe w' ⟨b,he,hb,hw⟩=>⟨by rw[he];cases b with|false=>rfl|true=>exact absurd (hb.1 rfl) hok,hw⟩);go_enter Tryz.func9,Tryz.ntmps9;go_wp2_with (go_at_call 25;refine KL.out.mono ?_;rintro e w2 ⟨rfl,hb2⟩);go_ret2;exact⟨hb2,.inl ⟨1,aJ,rfl,λh=>hok h.1⟩⟩
 have KL:Hid (aF ak 25 #[T A1 L.length c1,T A2 R.length c2] w λe w'=>e= .returned (aA ae)/\Below w.heap.size w w'):=I (RJ.out.mono λe w' ⟨b,he,hb,hw⟩=>⟨by rw[he];cases b with|true=>rfl|false=>exact absurd (hb.2 hok) aL,hw⟩);clear RJ
 cases t1:decide (aZ<0)
 case true=>
  go_enter Tryz.func9,Tryz.ntmps9;go_wp2_with (go_at_call 25;refine KL.out.mono ?_;rintro e w2 ⟨rfl,hb2⟩);go_ret2;exact⟨hb2,.inl ⟨2,aJ,rfl,λh=>by have:=iY t1;omega⟩⟩
 cases t2:decide (1000000000000<aZ)
 case true=>
  go_enter Tryz.func9,Tryz.ntmps9;go_wp2_with (go_at_call 25;refine KL.out.mono ?_;rintro e w2 ⟨rfl,hb2⟩);go_ret2;exact⟨hb2,.inl ⟨2,aJ,rfl,λh=>by have:=iY t2;omega⟩⟩
 have ht:0<=aZ/\aZ<=1000000000000:=⟨by have:=j3 t1;omega,by have:=j3 t2;omega⟩;have TP:=hok.1;have Ue:=hok.2.1;have dx:=I hok;have mk1: ∀ X:Z,(Instr.makeSlice 88 (G F L.length) (G F L.length)).run ak X= .ok (T (N ⟨X.heap.size,0,J⟩) L.length L.length) (X.alloc (U (kZ L.length (aA ag)) 4)):=λX=>G7 88 4 (aA ag) 1 Tryz.underlying88 ai rfl .i64 .i64 L.length O O X
 have mk2: ∀ X:Z,(Instr.makeSlice 88 (G F R.length) (G F R.length)).run ak X= .ok (T (N ⟨X.heap.size,0,J⟩) R.length R.length) (X.alloc (U (kZ R.length (aA ag)) 4)):=λX=>G7 88 4 (aA ag) 1 Tryz.underlying88 ai rfl .i64 .i64 R.length O O X
 clear hok;go_enter Tryz.func9,Tryz.ntmps9;go_upto_region 5 with (go_at_call 25;refine KL.out.mono ?_;rintro e w2 ⟨rfl,hb2⟩)
 go_cut [8] (λs wx=> ∃ (hh gu gv:Nat),s= .pointer (N ⟨hh,0,J⟩)/\fU wx w.heap.size hh #[T A1 L.length c1,T (N ⟨gu,0,J⟩) L.length L.length,T A2 R.length c2,T (N ⟨gv,0,J⟩) R.length R.length,G F aZ,T J 0 0] gu gv (List.replicate L.length ag) (List.replicate R.length ag) (T J 0 0) []/\Below w.heap.size w wx)
 case first=>
  clear KL;go_region
  all_goals clear mk1 mk2
  all_goals go_wp2_with fail
  all_goals go_meet
  all_goals have hn1:=(X5 L.length).symm
  all_goals have hn2:=(X5 R.length).symm
  ·refine⟨w2.heap.size+1+1,w2.heap.size,w2.heap.size+1,rfl,?_,(((hb2.alloc hb2.size _).alloc (by have:=hb2.size;simp;omega) _).alloc (by have:=hb2.size;simp;omega) _).drew⟩;rw[hn1,hn2];exact(YH hb2.size _ _ _ rfl).drew
  ·refine⟨w2.heap.size+1+1,w2.heap.size+1,w2.heap.size,rfl,?_,(((hb2.alloc hb2.size _).alloc (by have:=hb2.size;simp;omega) _).alloc (by have:=hb2.size;simp;omega) _).drew⟩;rw[hn1,hn2];exact((YH hb2.size _ _ _ rfl).swap).drew
 case rest=>
  obtain⟨hh,gu,gv,rfl,tT,hb⟩:=hcut;clear KL mk1 mk2 hb2;obtain⟨fa,hfa⟩: ∃ fa:Array aj,fa= #[T A1 L.length c1,T (N ⟨gu,0,J⟩) L.length L.length,T A2 R.length c2,T (N ⟨gv,0,J⟩) R.length R.length,G F aZ,T J 0 0]:=⟨_,rfl⟩;rw[<- hfa]at tT;have hfs:fa.size=6:=by rw[hfa];rfl
  have f0:fa[0]? =N (T A1 L.length c1):=by rw[hfa];rfl
  have f1:fa[1]? =N (T (N ⟨gu,0,J⟩) L.length L.length):=by rw[hfa];rfl
  have f2:fa[2]? =N (T A2 R.length c2):=by rw[hfa];rfl
  have f3:fa[3]? =N (T (N ⟨gv,0,J⟩) R.length R.length):=by rw[hfa];rfl
  have f4:fa[4]? =N (G F aZ):=by rw[hfa];rfl
  have HB:=I hb;have K1:=I (akU w.heap.size hh fa gu gv A1 A2 c1 c2 L.length R.length L R aZ wc hfs f0 f1 f2 f3 f4 (HL.out.below hb (aC _)) (HR.out.below hb (aC _)) dx.out ht tT);have xD:Hid ((((L++R).map bH.ref).Nodup)):=I dx.out.nodup;have j4:Hid ((∀ x∈L,-1000000000000<=x.amount/\x.amount<=1000000000000)/\(∀ x∈R,-1000000000000<=x.amount/\x.amount<=1000000000000)):=I (dx.out.iB);clear hb tT;go_upto_region 7 with (go_at_call 26;refine K1.out.mono ?_;rintro e w3 ⟨rfl,u3,v3,vo3,als,Y3,Y5,T9,hb3⟩)
  clear K1;have hB2:=HB.out.trans (hb3.mono (aC _));have F3:=I Y3;have HI:=I Y5;have oG:=I T9;have HB3:=I hB2;have hbw:=hB2.size;have hSub:=λ(k:Int) (W:Z)=>aot k W
  have hSt:=λ(k M s b:Nat) (W:Z) (hk:k<=12) (hM:M=2 ^ k) (hs:s<=W.heap.size) (hsb:s<=b) (hb:au W b 3 #[G F k])=>
   aou lC 8 O trivial trivial trivial rfl k M hk hM s b W hs hsb hb (λbase v l X hl ho=>jM.2 (akg base v l X hl ho)) (λx=>by
    obtain⟨r,hr,hc⟩:=akX x;exact⟨r,hr,λX=>jM.2 (hc X)⟩)
  have K2:=I (aaG w.heap.size hh fa gu gv 0 2 28 A1 A2 c1 c2 L.length R.length L R aZ AY w3.drew hfs O O f0 f1 f2 f3 f4 (HL.out.below HB3.out.drew (aC _)) (HR.out.below HB3.out.drew (aC _)) xD.out TP Ue j4.out ht u3 v3 vo3 als F3.out.drew HI.out alE (enters_of Tryz.func28 ai rfl) hSub hSt (λa b X=>UC X a b) (λn X hn=>OU X n hn));clear Y3 Y5 T9 hb3 hB2;go_region_with (go_at_call 27;refine K2.out.mono ?_;rintro e w4 ⟨rfl,u4,v4,vo4,UK,Y4,Y6,ZY,hb4⟩);clear K2;have hB4:=HB3.out.drew.trans (hb4.mono (aC _));have acQ:=I Y4;have Y7:Mt.Inv R L aZ v4 u4 (UK.map O4):=(Iu (f:=AY) (g:=λp:List aO×List aO=>(p.2,p.1)) (l:=UK) ▸ Y6.swap :);have HI4:=I Y7;have adl:=I ZY;have jS:=I hB4;have adk:Hid (((R++L).map bH.ref).Nodup):=I ((((List.perm_append_comm (l₁:=L) (l₂:=R)).map bH.ref).nodup_iff).1 xD.out);have K3:=I (aaG w.heap.size hh fa gv gu 2 0 29 A2 A1 c2 c1 R.length L.length R L aZ O4 w4.drew hfs O O f2 f3 f0 f1 f4 (HR.out.below jS.out.drew (aC _)) (HL.out.below jS.out.drew (aC _)) adk.out Ue TP ⟨j4.out.2,j4.out.1⟩ ht v4 u4 vo4 UK acQ.out.drew.swap HI4.out alG (enters_of Tryz.func29 ai rfl) hSub hSt (λa b X=>UC X a b) (λn X hn=>OU X n hn));clear Y4 Y6 ZY hb4 hB4 Y7 hSub hSt;go_upto_region 8 with fail
  go_region_with (go_at_call 27;refine K3.out.mono ?_;rintro e w5 ⟨rfl,v5,u5,vo5,aa4,S9,EI,hne5,hb5⟩);clear K3;have SQ:=jS.out.drew.trans (hb5.mono (aC _));have g5:w5.cell? ⟨hh,5,J⟩=N vo5:=S9.ag3 hfs;go_wp2_with fail;go_ret2;exact⟨SQ,.inr ⟨vo5,aa4,u5,v5,rfl,(Iu (f:=O4) (g:=λp:List aO×List aO=>(p.2,p.1)) (l:=aa4) ▸ EI.swap :),S9.row,S9.oM,λ⟨h0,hk⟩=>hne5 (adl.out (oG.out h0 hk)),dx.out⟩⟩
end
def Es:List bH:= [⟨⟨1,0⟩,70⟩]
def Et:List bH:= [⟨⟨2,0⟩,-68⟩]
theorem aey:Mt.nA Es Et:=by
 refine⟨by decide,aJ,λk hk=> ?_⟩;have h2:k<2:=hk
 match k,h2 with
 |0,_=>simp[Es,Et]
 |1,_=>simp[Es,Et]
theorem aez: ∀ x∈Es++Et,Wf x.ref.entry/\Wf x.ref.line:=by
 intro x hx;simp only[Es,Et,oV,oU,fT,lV,lW]at hx
 rcases hx with rfl|rfl<;>exact⟨by decide,aJ⟩
theorem aex:fits Es Et 2:=⟨by decide,0,aJ,aJ⟩
theorem al4 {out:List dK} {l r:List aO} (h:Mt.nJ out= [(l,r)]): ∃ p,out= [p]/\p.left.l=l/\p.right.l=r:=by
 unfold Mt.nJ at h
 cases out with
 |nil=>simp at h
 |cons p t=>
  simp only[vv,List.cons.injEq,MK,List.map_eq_nil_iff]at h;obtain⟨⟨h1,h2⟩,rfl⟩:=h;exact⟨p,rfl,h1,h2⟩
theorem NP (w:Z):aF ak 4 #[] w (λe w'=>e= .returned (aA ae)/\Below w.heap.size w w'):=by
 have hb1:Below w.heap.size w ((w.alloc (U #[G F 1,G F 0,G F 70] 74)).alloc (U #[G F 2,G F 0,G F (-68)] 74)):=((aD _ _).alloc (aC _) _).alloc aL _;have HL:=(au.new w 74 #[G F 1,G F 0,G F 70]).alloc (U #[G F 2,G F 0,G F (-68)] 74);have HR:=eT w (U #[G F 1,G F 0,G F 70] 74) 74 #[G F 2,G F 0,G F (-68)];have KP:=I (abh _ Es Et _ _ 1 1 2 (Rd.uT HL rfl rfl) (Rd.uT HR rfl rfl) aez);unfold NJ at KP;clear HL HR;go_enter Tryz.func4,Tryz.ntmps4;go_upto_region 2 with (go_at_call 9;refine KP.out.mono ?_;rintro e w2 ⟨hb2,⟨E,hE,rfl,hno⟩|⟨vo,out,u,v,rfl,hI,hrow,hls,hfit,-⟩⟩)
 ·exact absurd ⟨aey,aJ,aJ⟩ hno
 have hb:=ay hb1 hb2;have hne:=hfit aex;have hone:=aeA (l:=⟨⟨1,0⟩,70⟩) (r:=⟨⟨2,0⟩,-68⟩) hI (by unfold Mt.nJ;simpa using hne);obtain⟨p,rfl,h1,h2⟩:=al4 hone;obtain⟨A,c,hv,hr⟩:=Rd.dE hrow;have hv':vo= T A 1 c:=hv;subst hv';obtain⟨b,o,rfl,aX,c0,c1⟩:=dK.at_ hr (k:=0) aL;have hR:=(hls p aL).2.rd aO.len;obtain⟨⟨l1,A1,k1⟩,⟨l2,A2,k2⟩⟩:=p;dsimp only at h1 h2 hR c0 c1;subst h1 h2;obtain⟨b2,o2,hA2,qR,e0,e1⟩:=aO.at_ hR (k:=0) aL;subst hA2;simp only[Du,Md,Ib,Sl.val,ow]at c0 c1 e0 e1;clear hv hr hR hrow hls hfit hI hne hone KP;go_wp2_with fail;go_ret;exact⟨rfl,hb⟩
end Go.Proofs.YtbedbfdhfokifaaGreat
