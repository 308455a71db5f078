/- Part of the proof of WholeMatching. -/
import Derived.Test.YtbedbfdhfokifaaGreatJAU
import Derived.Test.YtbedbfdhfokifaaGreatJAV
namespace Go.Proofs.YtbedbfdhfokifaaGreat
set_option maxRecDepth 100000
set_option maxHeartbeats 16000000
set_option linter.unusedVariables false
set_option linter.unusedSimpArgs false
open _root_.Bool renaming true->ae,false->ag
open Go renaming World->Z,Calls->aF,Addr->aG,Value->aj,maxLen->bK,Ending->eG
open Go.Ending renaming returned->bM
open Go.IntKind renaming i64->F
open Go.Obj renaming cells->U
open Go.Proofs.Tryz renaming prog->ak
open Go.Value renaming int->G,slice->T,bool->aA,pointer->aN,string->av,agg->az,tuple->bG
open _root_.Option renaming none->J,some->N
open Go.RowKit
theorem SH {α β:Type} (f:α->β) (l:List α) (i:Nat) (d:α):(l.map f).getD i (f d)=f (l.getD i d):=by
 rw[Mv,Mv,VA]
 cases l[i]? <;>rfl
def bare (x:aY):ByteArray×ByteArray×List Acc×List bV×Bool:=(x.name,x.cK,x.jw.l,x.links.l,x.joint)
theorem BV {a b:List aY} (h:a.map bare=b.map bare):a.length=b.length:=by
 have:=congrArg List.length h
 simpa using this
theorem NQ {a b:List aY} (h:a.map bare=b.map bare) (i:Nat):bare (a.getD i default)=bare (b.getD i default):=by
 have h1:(a.map bare).getD i (bare default)=(b.map bare).getD i (bare default):=by rw[h]
 rwa [SH,SH]at h1
theorem aeD {a b:List aY} (h:a.map bare=b.map bare):a.map aY.name=b.map aY.name:=by
 have:=congrArg (List.map (λq:ByteArray×ByteArray×List Acc×List bV×Bool=>q.1)) h;rw[Iu,Iu]at this;exact this
theorem aaQ (E:List aY) (k:Nat):Gr.pI E k=((E.map aY.name).take k).any (λn=>decide (n=(E.map aY.name).getD k (default:aY).name)):=by
 unfold Gr.pI;rw[SH,<- List.map_take,List.any_map]
 rfl
theorem agt {x y:aY} (h:bare x=bare y) (ch:List Acc) (R:List eY):Gr.nV ch R x=Gr.nV ch R y:=by
 unfold bare at h;simp only[MK]at h;unfold Gr.nV;rw[h.1,h.2.1,h.2.2.1,h.2.2.2.1]
theorem agA {a b:List aY} (h:a.map bare=b.map bare) (ch:List Acc) (R:List eY):Gr.uM ch R a=Gr.uM ch R b:=by
 unfold Gr.uM;rw[BV h]
 congr 1
 funext k
 rw[aaQ,aaQ,aeD h,agt (NQ h k)]
theorem YU {a b:List aY} (h:a.map bare=b.map bare) (cur:ByteArray) (cl:List Acc) (ro:dZ) (nU:Bool):Gr.gv cur cl ro a nU=Gr.gv cur cl ro b nU:=by
 have h0:=NQ h 0;unfold bare at h0;simp only[MK]at h0;unfold Gr.gv;rw[BV h,agA h,h0.2.2.2.2]
theorem aao {a b:List aY} (h:a.map bare=b.map bare):Jn.kB a=Jn.kB b:=by
 funext e c
 have h0:=NQ h e.toNat;unfold bare at h0;simp only[MK]at h0;unfold Jn.kB;rw[h0.2.2.1]
theorem YE {a b:List aY} (h:a.map bare=b.map bare) {cur:ByteArray} {cl:List Acc} (hF:lY cur cl b):lY cur cl a:=by
 refine⟨hF.ch,by rw[BV h];exact hF.en,hF.cur,λj hj=> ?_⟩;have hj2:j<b.length:=by rw[<- BV h];exact hj
 have h0:=NQ h j;rw[getD_lt a j default hj,getD_lt b j default hj2]at h0;unfold bare at h0;simp only[MK]at h0;rw[h0.2.2.1,h0.2.2.2.1];exact hF.EE j hj2
theorem aeE {L:List aY} {i:Nat} (hi:i<L.length) {y:aY} (h:bare y=bare L[i]):(L.set i y).map bare=L.map bare:=by
 rw[List.map_set,h];have:bare L[i]=(L.map bare)[i]'(by rw[pM];exact hi):=by rw[vw]
 rw[this,List.set_getElem_self]
theorem agB: ∀ (L:List aY) (i:Nat) (h:i<L.length) (s:Sl Acc) (t:Sl bV),((cellsOf aY.cells L).set (i*5+2) s.val).set (i*5+3) t.val=cellsOf aY.cells (L.set i ⟨L[i].name,L[i].cK,s,t,L[i].joint⟩):=by
 intro L
 induction L with
 |nil=>intro i h;simp at h
 |cons x L ih=>
  intro i h s t
  cases i with
  |zero=>rfl
  |succ i=>
   have hi:i<L.length:=by simpa using h
   have e2:(i+1)*5+2=5+(i*5+2):=O;have e3:(i+1)*5+3=5+(i*5+3):=O;simp only[cellsOf,Zs,Bh];rw[e2,e3,Qk _ _ (by rw[aY.len];omega),Qk _ _ (by rw[aY.len];omega),aY.len,ML,ML,ih i hi s t]
def kF (cur:ByteArray) (y m p:Int) (nc:Nat) (cA:Option aG) (cc:Nat) (ro:dZ) (ne:Nat) (eA:Option aG) (ec:Nat):Array aj:=
 #[av cur,G F y,G F m,G F p,T cA nc cc,G F ro.dU,G F ro.dR,G F ro.dO,G F ro.inventory,G F ro.reserve,G F ro.dV,G F ro.dJ,G F ro.acquired,G F ro.dX,G F ro.dP,G F ro.dN,G F ro.dQ,G F ro.dW,G F ro.difference,G F ro.dL,T eA ne ec]
theorem ag7 {aB:Array aj} {cur:ByteArray} {y m p:Int} {cl:List Acc} {cA:Option aG} {cc:Nat} {ro:dZ} {el:List aY} {eA:Option aG} {ec:Nat} (HG:aB= #[av cur,G F y,G F m,G F p,T cA cl.length cc,G F ro.dU,G F ro.dR,G F ro.dO,G F ro.inventory,G F ro.reserve,G F ro.dV,G F ro.dJ,G F ro.acquired,G F ro.dX,G F ro.dP,G F ro.dN,G F ro.dQ,G F ro.dW,G F ro.difference,G F ro.dL,T eA el.length ec]):aB=kF cur y m p cl.length cA cc ro el.length eA ec:=HG
theorem ag9 {cur:ByteArray} {y m p:Int} {nc:Nat} {cA nD:Option aG} {cc pY:Nat} {ro:dZ} {ne:Nat} {eA nE:Option aG} {ec qa:Nat}:
 ((kF cur y m p nc cA cc ro ne eA ec).setIfInBounds 4 (T nD nc pY)).setIfInBounds 20 (T nE ne qa)=kF cur y m p nc nD pY ro ne nE qa:=rfl
theorem ag8 (cur:ByteArray) (y m p:Int) (nc:Nat) (cA:Option aG) (cc:Nat) (ro:dZ) (ne:Nat) (eA:Option aG) (ec:Nat):(kF cur y m p nc cA cc ro ne eA ec).all (·.oneCell')=ae:=by
 rw[<- Array.all_toList,ng];intro u hu;simp only[kF,fT,lV,lW]at hu
 rcases hu with rfl|rfl|rfl|rfl|rfl|rfl|rfl|rfl|rfl|rfl|rfl|rfl|rfl|rfl|rfl|rfl|rfl|rfl|rfl|rfl|rfl
 all_goals rfl
def nu (fC:Nat->Prop) (w w':Z):Prop:=w.heap.size<=w'.heap.size/\ ∀ b,b<w.heap.size-> ¬ fC b->w'.heap[b]? =w.heap[b]?
section
variable {fC:Nat->Prop} {w w' w2:Z}
theorem nu.trans (h:nu fC w w') (h2:nu fC w' w2):nu fC w w2:=⟨iT h.1 h2.1,λb hb hn=>(h2.2 b (ji hb h.1) hn).trans (h.2 b hb hn)⟩
theorem nu.of_below (h:Below w.heap.size w w'):nu fC w w':=⟨h.size,λb hb _=>h.block b hb⟩
theorem nu.Df {X:Nat} (h:w.grownBy w' (N X)) (hX:fC X):nu fC w w':=⟨h.size,λb hb hn=>h.block b hb (λe=>by injection e with e;subst e;exact hn hX)⟩
theorem nu.setRow {g:Nat} (ha:fC g) (cs:Array aj):nu fC w (w.setRow g cs):=⟨by simp[World.setRow],λb _ hn=>FE w g b cs (λe=>hn (e ▸ ha))⟩
theorem ae6 {b o:Nat} (h:w'.heap[b]? =w.heap[b]?):w'.cell? ⟨b,o,J⟩=w.cell? ⟨b,o,J⟩:=by simp only[World.cell?,h]
structure qM (fC:Nat->Prop) (w:Z) (sz:Nat) (A:Option aG) (n:Nat) (xs:List aj):Prop where
 len:xs.length=n*sz
 at_:0<n-> ∃ b o,A=N ⟨b,o,J⟩/\b<w.heap.size/\ ¬ fC b/\ ∀ j u,xs[j]? =N u->w.cell? ⟨b,o+j,J⟩=N u
variable {sz n:Nat} {A:Option aG} {xs:List aj}
theorem qM.rd (h:qM fC w sz A n xs):Rd w w.heap.size sz A n xs:=⟨h.len,λhn=>by
 obtain⟨b,o,e,hb,_,hc⟩:=h.at_ hn;exact⟨b,o,e,hb,hc⟩⟩
theorem qM.aaS {B:Nat} (h:Rd w B sz A n xs) (hB:B<=w.heap.size) (hN: ∀ b,b<B-> ¬ fC b):qM fC w sz A n xs:=⟨h.1,λhn=>by
 obtain⟨b,o,e,hb,hc⟩:=h.2 hn;exact⟨b,o,e,ji hb hB,hN b hb,hc⟩⟩
theorem qM.turn (h:qM fC w sz A n xs) (ht:nu fC w w'):qM fC w' sz A n xs:=⟨h.len,λhn=>by
 obtain⟨b,o,e,hb,hnb,hc⟩:=h.at_ hn;exact⟨b,o,e,ji hb ht.1,hnb,λj u hu=>(ae6 (ht.2 b hb hnb)).trans (hc j u hu)⟩⟩
theorem qM.dE {base:Nat} {e:TypeId} {c:Nat} (h:w.ownsRow base e sz (T A n c) n xs) (hN: ∀ b t cs,base<=b->au w b t cs->t=e-> ¬ fC b):qM fC w sz A n xs:=⟨h.1,λhn=>by
 rcases h.2 with ⟨_,h0⟩|⟨g,cap,cur,hv,hb,hg,_⟩
 ·omega
 ·injection hv with h1 _ h3
  subst h1;refine⟨g,0,rfl,(nM.1 hg).1,hN g e cur hb hg rfl,λj u hu=> ?_⟩;have:=h.cells (g:=g) rfl j u hu
  rwa [Ae,<- nN j]at this⟩
end
def Dr:Array aj:= #[av ⟨#[]⟩,G F 0,G F 0,G F 0,T J 0 0,G F 0,G F 0,G F 0,G F 0,G F 0,G F 0,G F 0,G F 0,G F 0,G F 0,G F 0,G F 0,G F 0,G F 0,G F 0,T J 0 0]
structure vI (fC:Nat->Prop) (w:Z) (x:aY):Prop where
 nm:x.name.size<=bK
 cu:x.cK.size<=bK
 ch:qM fC w 4 x.jw.A x.jw.l.length (cellsOf Acc.cells x.jw.l)
 Yf:x.jw.l.length<=x.jw.cap/\x.jw.cap<=bK
 Sk: ∀ a∈x.jw.l,Acc.Ok w a
 li:qM fC w 3 x.links.A x.links.l.length (cellsOf bV.cells x.links.l)
 li1:x.links.l.length<=x.links.cap/\x.links.cap<=bK
 Uu: ∀ a∈x.links.l,bV.Ok w a
theorem vI.turn {fC:Nat->Prop} {w w':Z} {x:aY} (h:vI fC w x) (ht:nu fC w w'):vI fC w' x:=⟨h.nm,h.cu,h.ch.turn ht,h.Yf,h.Sk,h.li.turn ht,h.li1,h.Uu⟩
theorem vI.ok {fC:Nat->Prop} {w:Z} {x:aY} (h:vI fC w x):x.Ok w:=⟨h.nm,h.cu,⟨⟨h.ch.rd,h.Yf⟩,h.Sk⟩,⟨⟨h.li.rd,h.li1⟩,h.Uu⟩,trivial⟩
theorem vI.of {fC:Nat->Prop} {w w':Z} {x:aY} (h:x.Ok w) (hb:Below w.heap.size w w') (hN: ∀ b,b<w.heap.size-> ¬ fC b):vI fC w' x:=
 ⟨h.1,h.2.1,.aaS (h.2.2.1.1.1.below hb (aC _)) hb.size hN,h.2.2.1.1.2,h.2.2.1.2,.aaS (h.2.2.2.1.1.1.below hb (aC _)) hb.size hN,h.2.2.2.1.1.2,h.2.2.2.1.2⟩
def acv (cur:ByteArray) (y m p:Int) (cl:List Acc) (ro:dZ) (el:List aY) (w:Z) (e:eG) (w':Z):Prop:=
 ∃ (nD:Option aG) (pY:Nat) (qQ:List aY) (nE:Option aG) (qa:Nat),e= .returned (az (kF cur y m p cl.length nD pY ro el.length nE qa))/\eB w' cl nD qQ nE/\qQ.map bare=el.map bare/\Below w.heap.size w w'
theorem alx {w:Z} {base:Nat} {e:TypeId} {sz:Nat} {v:aj} {n:Nat} {xs:List aj} (h:w.ownsRow base e sz v n xs) {g:Nat} (hg:v.ownBlock≠N g) (cs:Array aj):(w.setRow g cs).ownsRow base e sz v n xs:=
 ⟨h.1,h.2.imp id λ⟨g',cap,cur,h1,h2,h3,h4⟩=>⟨g',cap,cur,h1,h2,(FE w g g' cs (λe=>hg (by rw[h1,e];rfl))).trans h3,h4⟩⟩
section
variable (aB:Array aj) (cur:ByteArray) (y m p:Int) (cl:List Acc) (cA:Option aG) (cc:Nat) (ro:dZ) (el:List aY) (eA:Option aG) (ec:Nat) (w:Z)
theorem aha (HG:Hid (aB= #[av cur,G F y,G F m,G F p,T cA cl.length cc,G F ro.dU,G F ro.dR,G F ro.dO,G F ro.inventory,G F ro.reserve,G F ro.dV,G F ro.dJ,G F ro.acquired,G F ro.dX,G F ro.dP,G F ro.dN,G F ro.dQ,G F ro.dW,G F ro.difference,G F ro.dL,T eA el.length ec])) (h:eB w cl cA el eA) (hF:lY cur cl el) (h1:1<=el.length):aF ak 146 #[az aB] w (acv cur y m p cl ro el w):=by
 have hcl:=hF.ch;have hel:=hF.en;have HF:=I hF;have H:=I h;clear h hF;have hgi:(ak.info? 29).map (·.size)=N aB.size:=by rw[HG.out];exact gy
 have aib:(ak.info? 29).map (·.size)=N 21:=gy;have hb:Below w.heap.size w ((w.alloc (U aB 29)).alloc (U Dr 29)):=((aD _ _).alloc (aC _) _).alloc aL _;have HB:=I ((au.new w 29 aB).alloc (U Dr 29));have HZ:=I (eT w (U aB 29) 29 Dr);have hws:w.heap.size+2<=((w.alloc (U aB 29)).alloc (U Dr 29)).heap.size:=aL;go_enter Tryz.func146,Tryz.ntmps146;go_upto_region 1 with fail
 change Code.wp _ _ _ _ ((w.alloc (U aB 29)).alloc (U Dr 29))
 generalize (w.alloc (U aB 29)).alloc (U Dr 29)=W at*;have k4:W.cell? ⟨w.heap.size,4,J⟩=N (T cA cl.length cc):=(HB.out.cell 4).trans aQ;have hrc:Rd W W.heap.size 4 cA cl.length (cellsOf Acc.cells cl):=by have:=Rd.now H.out.ch hb;rwa [<- BR]at this
 have Gd:=I hrc;clear hrc;go_upto_region 2 with (go_at_call 216;refine(Ym cl cA cc _ Gd.out O).mono ?_;rintro e w5 ⟨A2,c2,rfl,nI,ah⟩;have mO:=I nI;have hb5:=ay hb ah;have gB:=I (HB.out.step ah);have rP:=I (HZ.out.step ah);have AA:=ah.size;clear ah nI;have f4:=gB.out.frozen 4;have g4:w5.cell? ⟨w.heap.size,4,J⟩=N (T cA cl.length cc):=(gB.out.cell 4).trans aQ)
 have mK:=I (gB.out.bZ 4 (T A2 cl.length c2));have xJ:=I (rP.out.far (p:=⟨w.heap.size,4,J⟩) (by show w.heap.size+1≠w.heap.size;omega) (T A2 cl.length c2));have zV:Hid (gp Acc.cells W.heap.size 212 4 (w5.setCell ⟨w.heap.size,4,J⟩ (T A2 cl.length c2)) ⟨cl,A2,c2⟩):=I (MF mO.out (a:=⟨w.heap.size,4,J⟩) (by show w.heap.size<_;omega) _);have hb6:=hb5.setCell (p:=⟨w.heap.size,4,J⟩) (aC _) (T A2 cl.length c2);have k20:(w5.setCell ⟨w.heap.size,4,J⟩ (T A2 cl.length c2)).cell? ⟨w.heap.size,20,J⟩=N (T eA el.length ec):=(mK.out.cell 20).trans aQ;have Lc:W.heap.size<=(w5.setCell ⟨w.heap.size,4,J⟩ (T A2 cl.length c2)).heap.size:=by simpa using AA
 clear gB rP mO hb5 f4 g4 k4 hb HB HZ AA;generalize w5.setCell ⟨w.heap.size,4,J⟩ (T A2 cl.length c2)=w6 at*;have WQ:=I (Rd.now H.out.en hb6);go_upto_region 3 with (go_at_call 217;refine(afh el eA ec _ WQ.out O).mono ?_;rintro e w7 ⟨A3,c3,rfl,eQ,ah⟩;have V3:=I eQ;have fu:=ay hb6 ah;have lZ:=I (mK.out.step ah);have Em:=I (xJ.out.step ah);have hz7:=ah.size;have ny:Hid (gp Acc.cells W.heap.size 212 4 w7 ⟨cl,A2,c2⟩):=I (dF zV.out ah);clear ah eQ;have f20:=lZ.out.frozen 20;have g20:w7.cell? ⟨w.heap.size,20,J⟩=N (T eA el.length ec):=(lZ.out.cell 20).trans aQ)
 have sZ:=I (lZ.out.bZ 20 (T A3 el.length c3));have Jt:=I (Em.out.far (p:=⟨w.heap.size,20,J⟩) (by show w.heap.size+1≠w.heap.size;omega) (T A3 el.length c3));have pU:Hid (gp Acc.cells W.heap.size 212 4 (w7.setCell ⟨w.heap.size,20,J⟩ (T A3 el.length c3)) ⟨cl,A2,c2⟩):=I (MF ny.out (a:=⟨w.heap.size,20,J⟩) (by show w.heap.size<_;omega) _);have IP:Hid (gp aY.cells w6.heap.size 179 5 (w7.setCell ⟨w.heap.size,20,J⟩ (T A3 el.length c3)) ⟨el,A3,c3⟩):=I (MF V3.out (a:=⟨w.heap.size,20,J⟩) (by show w.heap.size<_;omega) _);have gQ:=fu.setCell (p:=⟨w.heap.size,20,J⟩) (aC _) (T A3 el.length c3);clear lZ Em ny V3 fu f20 g20 k20 mK xJ zV hb6 hz7;generalize w7.setCell ⟨w.heap.size,20,J⟩ (T A3 el.length c3)=w8 at*;have HG2:Hid ((aB.setIfInBounds 4 (T A2 cl.length c2)).setIfInBounds 20 (T A3 el.length c3)=kF cur y m p cl.length A2 c2 ro el.length A3 c3):=I (by rw[ag7 HG.out];exact ag9);rw[HG2.out]at sZ;obtain⟨g,cap,apl,hA3,hg0,hBg,hnc,hcs⟩:=UM IP.out h1;have ahx:A3=N ⟨g,0,J⟩:=by injection hA3 with h _ _
 have ah5:c3=cap:=by injection hA3 with _ _ h
 subst ahx ah5;clear hA3;obtain⟨fC,hN⟩: ∃ fC:Nat->Prop,fC=λb=>b=g\/b=w.heap.size\/b=w.heap.size+1:=⟨_,rfl⟩
 have Jb:Hid (∀ b,fC b↔(b=g\/b=w.heap.size\/b=w.heap.size+1)):=I (λb=>by rw[hN]);clear hN;have VX:Hid (qM fC w8 4 A2 cl.length (cellsOf Acc.cells cl)):=I (qM.dE (c:=c2) pU.out (λb t cs hbb hB ht hn=>by
  rcases (Jb.out b).1 hn with e|e|e
  ·subst e;exact hB.ne hBg (by rw[ht];decide) rfl
  ·omega
  ·omega))
 have V5:Hid (∀ x∈el,vI fC w8 x):=I (λx hx=>vI.of (H.out.ok x hx) gQ (λb hbb hn=>by
  rcases (Jb.out b).1 hn with e|e|e<;>omega))
 have Jc:Hid (w8.ownsRow (w.heap.size+2) 179 5 (T (N ⟨g,0,J⟩) el.length c3) el.length (cellsOf aY.cells el)):=I (oO IP.out O);have hgw:w.heap.size+2<=g:=O;clear IP pU hBg hcs hg0 Lc hws WQ Gd;have k20:w8.cell? ⟨w.heap.size,20,J⟩=N (T (N ⟨g,0,J⟩) el.length c3):=(sZ.out.cell 20).trans rfl;go_wp2_with fail;clear k20;go_loopw [16] (λt wr=> ∃ (i:Nat) (L:List aY),i<=el.length/\L.map bare=el.map bare/\t= G F i/\wr.ownsRow (w.heap.size+2) 179 5 (T (N ⟨g,0,J⟩) el.length c3) el.length (cellsOf aY.cells L)/\(∀ x∈L,vI fC wr x)/\qM fC wr 4 A2 cl.length (cellsOf Acc.cells cl)/\au wr w.heap.size 29 (kF cur y m p cl.length A2 c2 ro el.length (N ⟨g,0,J⟩) c3)/\au wr (w.heap.size+1) 29 Dr/\Below w.heap.size w wr) (λt _=>el.length - (intOf t).toNat)
 case atStart=>exact⟨0,el,O,rfl,rfl,Jc.out,V5.out,VX.out,sZ.out,Jt.out,gQ⟩
 case round=>
  clear gQ sZ Jt Jc V5 VX;obtain⟨i,L,hi,hbare,rfl,ho,ZE,hch,hB,hZ,hb⟩:=hrel;have Qu:=I hbare;have HO:=I ho;have QD:=I ZE;have VW:=I hch;have HB:=I hB;have HZ:=I hZ;have hL:=BV hbare;have hz:=hb.size;clear hbare ho ZE hch hB hZ;have k20:wr.cell? ⟨w.heap.size,20,J⟩=N (T (N ⟨g,0,J⟩) el.length c3):=(HB.out.cell 20).trans rfl
  by_cases hlt:i<el.length
  ·have hi':i<L.length:=O;obtain⟨A',c',he,hr⟩:=Rd.dE HO.out;injection he with e1 e2 e3
   subst e1 e3;clear e2;have hr2:Rd wr wr.heap.size 5 (N ⟨g,0,J⟩) L.length (cellsOf aY.cells L):=by rw[hL];exact hr
   obtain⟨b,o,hA,aX,f0,f1,f2,f3,f4⟩:=aY.at_ hr2 hi';injection hA with hA
   injection hA with hA1 hA2
   subst hA1 hA2;have hok:=QD.out _ (bP hi');obtain⟨hn1,hn2⟩:=(YE Qu.out HF.out).EE i hi';have IV:=I (agB L i hi');have FY:=I (λy=>aeE (L:=L) (i:=i) hi' (y:=y));have HL:=I hL;clear hr hr2 f0 f1 f4 hL;generalize L[i]=x at*;obtain⟨xn,xu,⟨l1,A1,c1⟩,⟨l2,A4,c4⟩,xj⟩:=x;dsimp only[Sl.val]at*;rw[nN]at f2 f3;have dx:=I hok;clear hok;go_upto_region 7 with fail
   have q2: ∀ d:uH wr.heap.size wr,d.now.cell? ⟨g,i*5+2,J⟩=N (T A1 l1.length c1):=λd=>d.cell aX f2
   have q3: ∀ d:uH wr.heap.size wr,d.now.cell? ⟨g,i*5+3,J⟩=N (T A4 l2.length c4):=λd=>d.cell aX f3
   refine amJ (n:=18) wr.heap.size 14 wr ai rfl ?_;have hC:xP wr.heap.size wr wr.drew:=xP.of (aD _ _).drew;refine Hm (i:=0) rfl rfl ai ai ai rfl rfl ai ai (λ_ _ _ _ h=>h) hC ?_;intro K hK;go_big_quiet_op;go_big_quiet_on;refine Hm (i:=2) rfl rfl ai ai ai rfl rfl ai ai (λ_ _ _ _ h=>h) hC ?_;intro K hK;go_big_quiet_op;go_big_quiet_on;refine Hm (i:=3) rfl rfl ai ai ai rfl rfl ai ai (λ_ _ _ _ h=>h) hC ?_;intro K hK;go_big_quiet_op;go_big_quiet_on;refine Hm (i:=4) rfl rfl ai ai ai rfl rfl ai ai (λ_ _ _ _ h=>h) hC ?_;intro K hK;go_big_quiet_op;go_big_quiet_on;refine Hm (i:=5) rfl rfl ai ai ai rfl rfl ai ai (λ_ _ _ _ h=>h) hC ?_;intro K hK;go_big_quiet_op;go_big_quiet_on;refine Pm (i:=1) rfl rfl ai ai ai rfl rfl (λ_ _ _ _ h=>h) (.inr hC) ?_;intro K hK;go_big_quiet_op;go_big_quiet_on;refine Pm (i:=7) rfl rfl ai ai ai rfl rfl (λ_ _ _ _ h=>h) (.inr hC) ?_;intro K hK;go_big_quiet_op;go_big_quiet_on;refine Pm (i:=8) rfl rfl ai ai ai rfl rfl (λ_ _ _ _ h=>h) (.inr hC) ?_;intro K hK;go_big_quiet_op;go_big_quiet_on;refine Pm (i:=9) rfl rfl ai ai ai rfl rfl (λ_ _ _ _ h=>h) (.inr hC) ?_;intro K hK;go_big_quiet_op;go_big_quiet_on;refine Hm (i:=10) rfl rfl ai ai ai rfl rfl ai ai (λ_ _ _ _ h=>h) hC ?_;intro K hK;go_big_quiet_op;go_big_quiet_on;refine Di (i:=6) ai rfl rfl ?_;intro K hK;go_simp;go_at_call 216;refine(Ym l1 A1 c1 _ (Rd.now dx.out.ch.rd hC.below) O).mono ?_;rintro e w5 ⟨A5,c5,rfl,nI,ah⟩;have nX:Below wr.heap.size wr w5:=ay hC.below ah;have mO:Hid (gp Acc.cells wr.heap.size 212 4 w5 ⟨l1,A5,c5⟩):=I (nI.JF hC.below.size);clear nI ah
   (try go_wp2_with fail)
   refine hK _ _ (.inr (.inr (xP.of nX))) ?_;clear hK K hC
   (try simp only[Zx])
   refine Di (i:=11) ai rfl rfl ?_;intro K hK;go_simp;go_at_call 218;refine(afi l2 A4 c4 _ (Rd.now dx.out.li.rd nX) O).mono ?_;rintro e w6 ⟨A6,c6,rfl,ER,ah⟩;have zg:Below wr.heap.size wr w6:=ay nX ah;have zV:Hid (gp bV.cells wr.heap.size 250 3 w6 ⟨l2,A6,c6⟩):=I (ER.JF nX.size);replace mO:Hid (gp Acc.cells wr.heap.size 212 4 w6 ⟨l1,A5,c5⟩):=I (dF mO.out ah);clear ER ah nX
   (try go_wp2_with fail)
   have hC:xP wr.heap.size wr w6:=xP.of zg;refine hK _ _ (.inr (.inr hC)) ?_;clear hK K
   (try simp only[Zx])
   refine Di (i:=12) ai rfl rfl ?_;intro K hK;go_simp;refine hK _ _ (.inr (.inr hC)) ?_;clear hK K
   (try simp only[Zx])
   refine Di (i:=13) ai rfl rfl ?_;intro K hK;go_simp;refine hK _ _ (.inr (.inr hC)) ?_;clear hK K
   (try simp only[Zx])
   refine Di (i:=14) ai rfl rfl ?_;intro K hK;have Xc:=I (dF HO.out zg);have x2:w6.cell? ⟨g,i*5+2,J⟩=N (T A1 l1.length c1):=(zg.cell (p:=⟨g,i*5+2,J⟩) aX).trans f2;have x3:w6.cell? ⟨g,i*5+3,J⟩=N (T A4 l2.length c4):=(zg.cell (p:=⟨g,i*5+3,J⟩) aX).trans f3;have z2:w6.frozen? ⟨g,i*5+2,J⟩=ag:=Xc.out.frozenAt _;go_simp;refine hK _ _ (.inr (.inl rfl)) ?_;clear hK K q2 q3;obtain⟨eQ,eU⟩:=Xc.out.stored (i*5+2) (T A5 l1.length c5);have y3:(w6.setCell ⟨g,i*5+2,J⟩ (T A5 l1.length c5)).cell? ⟨g,i*5+3,J⟩=N (T A4 l2.length c4):=(Sj w6 g _ _ _ O).trans x3;clear x2 x3 z2 hC;generalize w6.setCell ⟨g,i*5+2,J⟩ (T A5 l1.length c5)=w7 at*;have Xd:=I eQ;have F4:=I eU;clear eQ eU
   (try simp only[Zx])
   refine Di (i:=15) ai rfl rfl ?_;intro K hK;go_simp;refine hK _ _ (.inl rfl) ?_;clear hK K
   (try simp only[Zx])
   refine Di (i:=16) ai rfl rfl ?_;intro K hK;go_simp;refine hK _ _ (.inl rfl) ?_;clear hK K
   (try simp only[Zx])
   refine Di (i:=17) ai rfl rfl ?_;intro K hK;have z3:w7.frozen? ⟨g,i*5+3,J⟩=ag:=Xd.out.frozenAt _;go_simp;refine hK _ _ (.inl rfl) ?_;clear hK K;obtain⟨wE,Aw⟩:=Xd.out.stored (i*5+3) (T A6 l2.length c6);generalize w7.setCell ⟨g,i*5+3,J⟩ (T A6 l2.length c6)=wz at*;clear y3 z3 f2 f3;have hes:=IV.out ⟨l1,A5,c5⟩ ⟨l2,A6,c6⟩;dsimp only[Sl.val]at hes;rw[hes]at wE;have HOZ:=I wE;have Kh:fC g:=(Jb.out g).2 (.inl rfl);have hap:nu fC wr wz:=(nu.of_below zg).trans ((nu.Df F4.out Kh).trans (nu.Df Aw Kh));have Tu:nu fC w6 wz:=(nu.Df F4.out Kh).trans (nu.Df Aw Kh);have j6:=((HB.out.step zg).grown F4.out bL).grown Aw bL;have Zr:=((HZ.out.step zg).grown F4.out bL).grown Aw bL;have hbz:Below w.heap.size w wz:=ni (ni (ay hb zg) F4.out (by have:=zg.size;omega) (λj hj=>by injection hj with hj;omega)) Aw (by have:=zg.size;have:=F4.out.size;omega) (λj hj=>by injection hj with hj;omega);have Tj: ∀ b,wr.heap.size<=b-> ¬ fC b:=λb hb hn=>by
    rcases (Jb.out b).1 hn with e|e|e<;>omega
   have hy:vI fC wz ⟨xn,xu,⟨l1,A5,c5⟩,⟨l2,A6,c6⟩,xj⟩:=⟨dx.out.nm,dx.out.cu,(qM.dE (c:=c5) mO.out (λb t cs hbb _ _=>Tj b hbb)).turn Tu,mO.out.lies.2,dx.out.Sk,(qM.dE (c:=c6) zV.out (λb t cs hbb _ _=>Tj b hbb)).turn Tu,zV.out.lies.2,dx.out.Uu⟩;have Y1: ∀ x∈L.set i ⟨xn,xu,⟨l1,A5,c5⟩,⟨l2,A6,c6⟩,xj⟩,vI fC wz x:=λx hx=>by
    rcases List.mem_or_eq_of_mem_set hx with h|h
    ·exact(QD.out x h).turn hap
    ·subst h;exact hy
   have hbs:(L.set i ⟨xn,xu,⟨l1,A5,c5⟩,⟨l2,A6,c6⟩,xj⟩).map bare=el.map bare:=(FY.out ⟨xn,xu,⟨l1,A5,c5⟩,⟨l2,A6,c6⟩,xj⟩ rfl).trans Qu.out;have acJ:=I Y1;have acB:=I hbs;have HBZ:=I j6;have HZZ:=I Zr;have acE:=I (VW.out.turn hap);generalize L.set i ⟨xn,xu,⟨l1,A5,c5⟩,⟨l2,A6,c6⟩,xj⟩=L2 at*;clear Y1 hbs j6 Zr hy hap Tu Aw wE hes Tj Kh
   (try simp only[Zx])
   refine kH ai ?_ _;go_wp2_with fail;go_roundw
   case rel=>
    exact⟨i+1,L2,O,acB.out,by go_num,HOZ.out,acJ.out,acE.out,HBZ.out,HZZ.out,hbz⟩
   case measure=>simp[intOf];omega
  ·have W9:=I (ag8 cur y m p cl.length A2 c2 ro el.length (N ⟨g,0,J⟩) c3);have Rn:Hid ((kF cur y m p cl.length A2 c2 ro el.length (N ⟨g,0,J⟩) c3).size=21):=I rfl;have mg:Hid (∃ X,X=kF cur y m p cl.length A2 c2 ro el.length (N ⟨g,0,J⟩) c3):=I ⟨_,rfl⟩;obtain⟨X,hX⟩:=mg.out;have uF:=I hX;rw[<- hX]at W9 Rn HB;clear hX mg k20;have hgz:(ak.info? 29).map (·.size)=N X.size:=by rw[Rn.out];exact aib
   go_wp2_with (first
    |(refine cZ 29 (.tmp 1) rfl w.heap.size rfl ai HB.out bQ hgz ?_)
    |(refine oQ rfl 29 (.tmp 2) (.tmp 40) rfl (w.heap.size+1) X rfl rfl 29 Dr HZ.out hgz (by rw[Rn.out];rfl) W9.out ?_))
   refine iq (v:= az X) (FL Tryz.results146 _ _ (w.heap.size+1) 29 X (0,0) _ rfl (mQ HZ.out _) bQ rfl hgz) rfl ?_;have hap:nu fC wr (wr.setRow (w.heap.size+1) X):=nu.setRow ((Jb.out _).2 (.inr (.inr rfl))) X;have hne:g≠w.heap.size+1:=O;refine⟨A2,c2,L,N ⟨g,0,J⟩,c3,by rw[uF.out],⟨?_,?_,λx hx=>((QD.out x hx).turn hap).ok,H.out.wf⟩,Qu.out,oJ hb O⟩
   ·have:=(VW.out.turn hap).rd
    rwa [BR]at this
   ·obtain⟨A',c',he,hr⟩:=Rd.dE (alx HO.out (λhg=>hne (by injection hg)) X);injection he with e1 e2 e3
    subst e1 e3;rw[hL];exact hr
end
def og (fP:Array aj) (v:aj) (b1 b2:Nat):Array aj:=(fP.toList++([v,.map (N b1),.map (N b2)]:List aj)).toArray
section
variable {fP:Array aj} {v v':aj} {b1 b2:Nat}
theorem ajk (h:fP.size=21) {j:Nat} (hj:j<21):(og fP v b1 b2)[j]? =fP[j]? :=by
 have:j<fP.toList.length:=by rw[oq,h];exact hj
 unfold og;rw[yE,Ic this,q9]
theorem sJ (h:fP.size=21) (k:Nat):(og fP v b1 b2)[21+k]? =([v,.map (N b1),.map (N b2)]:List aj)[k]? :=by
 unfold og;rw[yE,PO (by rw[oq,h];omega),oq,h,ML]
theorem ajm (h:fP.size=21):(og fP v b1 b2).setIfInBounds 21 v'=og fP v' b1 b2:=by
 unfold og;rw[Zi,Qk _ _ (by rw[oq,h];omega),oq,h]
 rfl
theorem ajl {w:Z} {b:Nat} {t:TypeId} (hB:au w b t (og fP v b1 b2)) (h:fP.size=21):w.rangeAt b 0 fP.toList:=λj u hu=>by
 have hj:j<21:=by
  have:=(vg.1 hu).1
  rwa [oq,h]at this
 rw[nN,hB.cell j,ajk h hj,<- q9];exact hu
end
theorem ajj {aB:Array aj} {cur:ByteArray} {y m p:Int} {nc:Nat} {cA:Option aG} {cc:Nat} {ro:dZ} {ne:Nat} {eA:Option aG} {ec:Nat} (HG:aB=kF cur y m p nc cA cc ro ne eA ec) (b1 b2:Nat):
 (ak).built 238 [(0,az aB),(2,.map (N b1)),(3,.map (N b2))]=N (og aB (T J 0 0) b1 b2):=by
 rw[HG]
 kernel_rfl
def rV (x:aI):aI:=⟨x.id,x.bF,x.date,x.kind,x.of,x.text,⟨x.lines.l,J,0⟩⟩
structure vZ (w1 w:Z) (jb b1 b2:Nat) (fP:Array aj) (v:aj) (L es:List aI):Prop where
 j0:w1.heap.size<=jb
 m10:w1.heap.size<=b1
 m20:w1.heap.size<=b2
 m12:b1≠b2
 below:Below w1.heap.size w1 w
 blk:au w jb 238 (og fP v b1 b2)
 row:w.ownsRow w1.heap.size 107 7 v L.length (cellsOf aI.cells L)
 lines: ∀ x∈L,gp bq.cells w1.heap.size 131 3 w x.lines
 same:L.map rV=es.map rV
 m1:gZ ak 3 3 w b1 es.length (λid=>(Jn.get es id).map Int.ofNat)
 m2:gZ ak 3 3 w b2 es.length (Jn.rev es)
def aeb (V:Bool) (cur:ByteArray) (y m p:Int) (cl:List Acc) (ro:dZ) (el:List aY) (w:Z) (e:eG) (w':Z):Prop:=
 (V=ag/\e= .returned (bG #[aN J,G F 1])/\Below w.heap.size w w')\/
 (V=ae/\ ∃ (jb b1 b2:Nat) (nD:Option aG) (pY:Nat) (qQ:List aY) (nE:Option aG) (qa:Nat) (w1:Z),e= bM (bG #[aN (N ⟨jb,0,J⟩),G F 0])/\
  eB w1 cl nD qQ nE/\qQ.map bare=el.map bare/\Below w.heap.size w w1/\vZ w1 w' jb b1 b2 (kF cur y m p cl.length nD pY ro el.length nE qa) (T J 0 0) [] [])
theorem ahn {cur:ByteArray} {cl:List Acc} {ro:dZ} {el:List aY} {nU:Bool} (h:Gr.gv cur cl ro el nU=ae):1<=el.length:=by
 unfold Gr.gv at h;simp only[bR,dm]at h;exact h.2.2.2.1
section
variable (aB:Array aj) (cur:ByteArray) (y m p:Int) (cl:List Acc) (cA:Option aG) (cc:Nat) (ro:dZ) (el:List aY) (eA:Option aG) (ec:Nat) (w:Z)
theorem akE (HG:Hid (aB= #[av cur,G F y,G F m,G F p,T cA cl.length cc,G F ro.dU,G F ro.dR,G F ro.dO,G F ro.inventory,G F ro.reserve,G F ro.dV,G F ro.dJ,G F ro.acquired,G F ro.dX,G F ro.dP,G F ro.dN,G F ro.dQ,G F ro.dW,G F ro.difference,G F ro.dL,T eA el.length ec])) (h:eB w cl cA el eA) (hF:lY cur cl el):aF ak 98 #[az aB] w (aeb (Gr.gv cur cl ro el (ax.ok y m p)) cur y m p cl ro el w):=by
 have H:=I h;have lG:=I (λW (h:eB W cl cA el eA)=>Ol aB cur y m p cl cA cc ro el eA ec W HG h hF);have DR:=I (λW (h:eB W cl cA el eA) h1=>aha aB cur y m p cl cA cc ro el eA ec W HG h hF h1);have H1:=I (λ(hv:Gr.gv cur cl ro el (ax.ok y m p)=ae)=>ahn hv);clear h hF;have hgi:(ak.info? 29).map (·.size)=N aB.size:=by rw[HG.out];exact gy
 have hb:Below w.heap.size w (w.alloc (U aB 29)):=(aD _ _).alloc (aC _) _;have HB:=I (au.new w 29 aB);have hmm:= @rC ak;generalize Gr.gv cur cl ro el (ax.ok y m p)=V at*;go_enter Tryz.func98,Tryz.ntmps98;go_upto_region 1 with fail
 generalize w.alloc (U aB 29)=W at*
 cases V
 ·go_wp2_with (first
   |(refine cZ 29 (.tmp 1) rfl (w.heap.size) rfl ai (HB).out bQ hgi ?_)
   |(go_at_call 76;refine(lG.out _ (H.out.step hb)).mono ?_;rintro e w3 ⟨rfl,hb3⟩;have hb4:=ay hb hb3))
  go_ret2;exact .inl ⟨rfl,rfl,hb4⟩
 ·have h1:=H1.out rfl;have HN1:=I h1;clear h1;go_upto_region 3 with (first
   |(refine cZ 29 (.tmp 1) rfl (w.heap.size) rfl ai (HB).out bQ hgi ?_)
   |(go_at_call 76;refine(lG.out _ (H.out.step hb)).mono ?_;rintro e w3 ⟨rfl,hb3⟩;have hb4:=ay hb hb3;have HB3:=I (HB.out.step hb3);clear hb3))
  clear hb HB;go_wp2_with (first
   |(refine cZ 29 (.tmp 1) rfl (w.heap.size) rfl ai (HB3).out bQ hgi ?_)
   |(go_at_call 146;refine(DR.out _ (H.out.step hb4) HN1.out).mono ?_;rintro e w5 ⟨nD,pY,qQ,nE,qa,rfl,hg5,hbr,ah⟩;have hb5:=ay hb4 ah;have M5:=I hg5;have HBR:=I hbr;clear ah hg5 hbr;obtain⟨G2,hG2⟩: ∃ G2,G2=kF cur y m p cl.length nD pY ro el.length nE qa:=⟨_,rfl⟩;have Wi:=I hG2;rw[<- hG2];clear hG2;have Qy:=I (ajj Wi.out w5.heap.size (w5.heap.size+1)))
   |(refine jP rfl 11 rfl 238 _ rfl (og G2 (T J 0 0) w5.heap.size (w5.heap.size+1)) [(0,az G2),(2,.map (N w5.heap.size)),(3,.map (N (w5.heap.size+1)))] ai Qy.out ?_))
  go_ret2;refine .inr ⟨rfl,w5.heap.size+1+1,w5.heap.size,w5.heap.size+1,nD,pY,qQ,nE,qa,w5,rfl,M5.out,HBR.out,hb5,?_⟩;rw[<- Wi.out];refine⟨by omega,aC _,O,O,(((aD _ _).alloc (aC _) _).alloc aL _).alloc bL _,?_,jZ _ _ _ _,λx hx=>by (cases hx),rfl,?_,?_⟩
  ·have:=au.new ((w5.alloc (.map #[] 0)).alloc (.map #[] 0)) 238 (og G2 (T J 0 0) w5.heap.size (w5.heap.size+1))
   rwa [fG,fG]at this
  ·exact((gZ.made (P:=ak) (k:=3) (e:=3) w5).alloc _).alloc _
  ·have:=(gZ.made (P:=ak) (k:=3) (e:=3) (w5.alloc (.map #[] 0))).alloc (U (og G2 (T J 0 0) w5.heap.size (w5.heap.size+1)) 238)
   rwa [fG]at this
end
namespace Jn
theorem abR {es:List aI} {x:aI} (h:get es x.of=J):mX es x=8:=by
 unfold mX;rw[h]
theorem abQ {es:List aI} {x o:aI} {k:Nat} (h:get es x.of=N k) (ho:rV o=rV (es.getD k default)):
 mX es x=if decide (o.kind=3)||(rev es x.of).isSome then 7 else if decide (o.bF=x.bF)&&decide (o.date<=x.date)&&mr x.lines.l o.lines.l then 0 else 18:=by
 unfold mX;rw[h];dsimp only;generalize es.getD k default=z at*;obtain⟨z1,z2,z3,z4,z5,z6,⟨z7,z8,z9⟩⟩:=z;obtain⟨o1,o2,o3,o4,o5,o6,⟨o7,o8,o9⟩⟩:=o;unfold rV at ho;dsimp only at ho;injection ho with h1 h2 h3 h4 h5 h6 h7
 injection h7 with h7
 subst h1 h2 h3 h4 h5 h6 h7
 rfl
end Jn
section
variable (w:Z) (id en da kd fo:Int) (tx:ByteArray) (ll:List bq) (lA:Option aG) (lc:Nat)
theorem amY (w1:Z) (jb b1 b2:Nat) (fP:Array aj) (v:aj) (L es:List aI) (h:vZ w1 w jb b1 b2 fP v L es) (hG:fP.size=21) (hes: ∀ y∈es,y.lines.l.length<=40/\ ∀ l∈y.lines.l,-1000000000000<=l.amount/\l.amount<=1000000000000) (hln:es.length<=1000)
 (hr:Rd w w.heap.size 3 lA ll.length (cellsOf bq.cells ll)) (hn:ll.length<=1000) (hfo:Wf fo):
 aF ak 148 #[aN (N ⟨jb,0,J⟩),az #[G F id,G F en,G F da,G F kd,G F fo,av tx,T lA ll.length lc]] w (xM (Jn.mX es ⟨id,en,da,kd,fo,tx,⟨ll,lA,lc⟩⟩) w):=by
 have fF:=I h;have HR:=I hr;have IV:=I hes;obtain⟨A,c,hv,hrow⟩:=Rd.dE h.row;subst hv;have BL:=I hrow;have hll:L.length=es.length:=by have:=congrArg List.length h.same;simpa using this
 clear h hr hes hrow;have hb:Below w.heap.size w (w.alloc (U #[G F id,G F en,G F da,G F kd,G F fo,av tx,T lA ll.length lc] 107)):=(aD _ _).alloc (aC _) _;have HP:=I (au.new w 107 #[G F id,G F en,G F da,G F kd,G F fo,av tx,T lA ll.length lc]);have zS:=I (fF.out.m1.alloc (U #[G F id,G F en,G F da,G F kd,G F fo,av tx,T lA ll.length lc] 107));have vQ:=I (fF.out.m2.alloc (U #[G F id,G F en,G F da,G F kd,G F fo,av tx,T lA ll.length lc] 107));have HJ:=I (fF.out.blk.alloc (U #[G F id,G F en,G F da,G F kd,G F fo,av tx,T lA ll.length lc] 107));generalize hX:Jn.mX es ⟨id,en,da,kd,fo,tx,⟨ll,lA,lc⟩⟩=X at*;have HX:=I hX;clear hX;go_enter Tryz.func148,Tryz.ntmps148;go_upto_region 1 with fail
 generalize w.alloc (U #[G F id,G F en,G F da,G F kd,G F fo,av tx,T lA ll.length lc] 107)=W at*;have q0: ∀ d:Later W,d.now.cell? ⟨jb,22,J⟩=N (.map (N b1)):=λd=>d.cell HJ.out.lt ((HJ.out.cell 22).trans (sJ hG 1))
 have q1: ∀ d:Later W,d.now.cell? ⟨w.heap.size,4,J⟩=N (G F fo):=λd=>d.cell HP.out.lt (HP.out.cell 4)
 have qL: ∀ d:Later W,(Instr.lookup 236 (.map (N b1)) (G F fo) ae).run ak d.now= .ok (bG #[G F (((Jn.get es fo).map Int.ofNat).getD 0),aA ((Jn.get es fo).map Int.ofNat).isSome]) d.now:=λd=>(zS.out.step d.below).look dh dh Iz (Vq _) hfo
 cases hget:Jn.get es fo with
 |none=>
  have HE:Hid (X=8):=I (by rw[<- HX.out];exact Jn.abR hget);rw[hget]at qL;dsimp only[Option.map_none,Dz,wV]at qL;clear hget;refine eX ai ai ?_;(repeat (go_big_quiet_step ((fail))));refine wpQuiet_nil ?_;rintro _ ⟨dq,rfl⟩;have hbe:=ay hb dq.below;go_wp2_with fail;go_ret;exact⟨by rw[HE.out];rfl,hbe⟩
 |some k=>
  obtain⟨hk,-⟩:=Jn.YR hget;have TM:k<L.length:=O;have tL:=I (λo ho=>Jn.abQ (x:=⟨id,en,da,kd,fo,tx,⟨ll,lA,lc⟩⟩) (o:=o) hget ho);rw[hget]at qL;dsimp only[Option.map_some,rz,rD]at qL;clear hget;have Z0:Int.ofNat k=(k:Int):=rfl;rw[Z0]at qL;clear Z0;refine eX ai ai ?_;(repeat (go_big_quiet_step ((fail))));refine wpQuiet_nil ?_;rintro _ ⟨dq,rfl⟩;have hbe:=ay hb dq.below;replace HP:=I (HP.out.step dq.below);replace vQ:=I (vQ.out.step dq.below);replace HJ:=I (HJ.out.step dq.below);clear q0 q1 qL zS hb;generalize dq.now=W2 at*;clear dq;obtain⟨bb,o,hA,aX,f0,f1,f2,f3,f4,f5,f6⟩:=aI.at_ (Rd.now BL.out hbe) TM;subst hA;have Zd:=fF.out.lines _ (bP TM);have hsm:rV L[k]=rV (es.getD k default):=by
   have h1:(L.map rV)[k]'(by rw[pM];exact TM)=(es.map rV)[k]'(by rw[pM];exact hk):=by simp only[fF.out.same]
   rw[vw,vw]at h1;rw[h1,getD_lt es k default hk]
  have hbd:=IV.out _ (bP hk);rw[<- getD_lt es k default hk]at hbd;have Jj:=I (tL.out _ hsm);have OB:L[k].lines.l.length<=40/\ ∀ l∈L[k].lines.l,-1000000000000<=l.amount/\l.amount<=1000000000000:=by
   have h7:L[k].lines.l=(es.getD k default).lines.l:=by
    show (rV L[k]).lines.l=(rV (es.getD k default)).lines.l;rw[hsm]
   rw[h7];exact hbd
  have Jm:=I OB;have hrl:Rd w w.heap.size 3 L[k].lines.A L[k].lines.l.length (cellsOf bq.cells L[k].lines.l):=(Zd.lies).1;have Ri:=I hrl;have k21:W2.cell? ⟨jb,21,J⟩=N (T (N ⟨bb,o,J⟩) L.length c):=(HJ.out.cell 21).trans (sJ hG 0);clear Zd hsm hbd OB hrl tL;generalize L[k]=z at*;obtain⟨oi,oe,od,ok,oo,ot,⟨ol,oA,oc⟩⟩:=z;dsimp only[Sl.val]at*;have hst:=(aD W2.heap.size W2).alloc (aC _) (U #[G F oi,G F oe,G F od,G F ok,G F oo,av ot,T oA ol.length oc] 107);have HO:=I (au.new W2 107 #[G F oi,G F oe,G F od,G F ok,G F oo,av ot,T oA ol.length oc]);replace HP:=I (HP.out.step hst);replace vQ:=I (vQ.out.step hst);replace HJ:=I (HJ.out.step hst);replace hbe:=ay hbe hst;have hkk:(0:Int)<=(k:Int):=O;have ail:(k:Int)<L.length:=O;go_upto_region 5 with fail
  have hfr:fo=(⟨id,en,da,kd,fo,tx,⟨ll,lA,lc⟩⟩:aI).of:=rfl;clear hfr k21;generalize W2.alloc (U #[G F oi,G F oe,G F od,G F ok,G F oo,av ot,T oA ol.length oc] 107)=W3 at*;have p0: ∀ d:Later W3,d.now.cell? ⟨jb,23,J⟩=N (.map (N b2)):=λd=>d.cell HJ.out.lt ((HJ.out.cell 23).trans (sJ hG 2))
  have p1: ∀ d:Later W3,d.now.cell? ⟨w.heap.size,4,J⟩=N (G F fo):=λd=>d.cell HP.out.lt (HP.out.cell 4)
  have pL: ∀ d:Later W3,(Instr.lookup 236 (.map (N b2)) (G F fo) ae).run ak d.now= .ok (bG #[G F ((Jn.rev es fo).getD 0),aA (Jn.rev es fo).isSome]) d.now:=λd=>(vQ.out.step d.below).look dh dh Iz (Vq _) hfo
  generalize (Jn.rev es fo).getD 0=rv at*;generalize (Jn.rev es fo).isSome=rb at*;rw[HX.out]at Jj;clear f0 f1 f2 f3 f4 f5 f6 hst hkk ail;refine eX ai ai ?_;(repeat (go_big_quiet_step ((fail))));refine wpQuiet_nil ?_;rintro _ ⟨dq,rfl⟩;have hbx:=ay hbe dq.below;have kU:=I (HP.out.step dq.below);have ko:=I (HO.out.step dq.below);clear p0 p1 pL HP HO vQ HJ hbe;generalize hwz:W2.heap.size=wz at*;clear hwz;generalize dq.now=W4 at*;clear dq;have e1:W4.cell? ⟨w.heap.size,1,J⟩=N (G F en):=kU.out.cell 1;have e2:W4.cell? ⟨w.heap.size,2,J⟩=N (G F da):=kU.out.cell 2;have e6:W4.cell? ⟨w.heap.size,6,J⟩=N (T lA ll.length lc):=kU.out.cell 6;have o1:W4.cell? ⟨wz,1,J⟩=N (G F oe):=ko.out.cell 1;have o2:W4.cell? ⟨wz,2,J⟩=N (G F od):=ko.out.cell 2;have o3:W4.cell? ⟨wz,3,J⟩=N (G F ok):=ko.out.cell 3;have o6:W4.cell? ⟨wz,6,J⟩=N (T oA ol.length oc):=ko.out.cell 6
  cases rb
  ·cases hk3:(ok==3)
   ·have xX:decide (ok=3)=ag:=by simpa using hk3
    have HQ:Hid (X=if decide (oe=en)&&decide (od<=da)&&Jn.mr ll ol then 0 else 18):=I (by rw[Jj.out];simp[xX]);clear xX Jj
    cases hoe:(oe !=en)
    ·by_cases OD:da<od
     ·have HE:Hid (X=18):=I (by rw[HQ.out];simp;omega);go_wp2_with fail;go_ret;exact⟨by rw[HE.out];rfl,hbx⟩
     ·have x8:decide (oe=en)=ae:=by simpa using hoe
      have Ku:decide (od<=da)=ae:=bL;have zW:Hid (X=if Jn.mr ll ol then 0 else 18):=I (by rw[HQ.out,x8,Ku];rfl);clear x8 Ku HQ;have K:=I (alp ll ol lA oA lc oc W4 (Rd.now HR.out hbx) (Rd.now Ri.out hbx) hn (by have:=Jm.out.1;omega) (λy hy=>by have:=Jm.out.2 y hy;omega))
      cases hop:Jn.mr ll ol
      ·have HE:Hid (X=18):=I (by rw[zW.out,hop];rfl);rw[hop]at K;clear hop;go_wp2_with (go_at_call 223;refine K.out.mono ?_;rintro e w5 ⟨rfl,ah⟩;have hb5:=ay hbx ah;clear ah);go_ret;exact⟨by rw[HE.out];rfl,hb5⟩
      ·have HE:Hid (X=0):=I (by rw[zW.out,hop];rfl);rw[hop]at K;clear hop;go_wp2_with (go_at_call 223;refine K.out.mono ?_;rintro e w5 ⟨rfl,ah⟩;have hb5:=ay hbx ah;clear ah);go_ret;exact⟨by rw[HE.out];rfl,hb5⟩
    ·have x8:decide (oe=en)=ag:=by simpa using hoe
     have HE:Hid (X=18):=I (by rw[HQ.out,x8];rfl);clear x8;go_wp2_with fail;go_ret;exact⟨by rw[HE.out];rfl,hbx⟩
   ·have xX:decide (ok=3)=ae:=by simpa using hk3
    have HE:Hid (X=7):=I (by rw[Jj.out];simp[xX]);clear xX;go_wp2_with fail;go_ret;exact⟨by rw[HE.out];rfl,hbx⟩
  ·have HE:Hid (X=7):=I (by rw[Jj.out];simp);go_wp2_with fail;go_ret;exact⟨by rw[HE.out];rfl,hbx⟩
end
namespace Jn
theorem ahe {C:aI->Int} {es:List aI} {x:aI} (h:qi C es x=0) (id:Int):get (es++ [x]) id=if id=x.id then N es.length else get es id:=by
 obtain⟨_,h2,_,_⟩:=O8 h;rw[ahf]
 by_cases e:id=x.id
 ·rw[bB e,e,h2];simp
 ·rw[bE e]
  cases h3:get es id with
  |some j=>simp
  |none=>simp;exact λh4=>absurd h4.symm e
theorem amW {C:aI->Int} {es:List aI} {x:aI} (h:qi C es x=0) (h3:x.kind=3) (id:Int):rev (es++ [x]) id=if id=x.of then N x.id else rev es id:=by
 obtain⟨_,_,h2,_⟩:=O8 h;have hr:=anI (h2 h3);rw[abC]
 by_cases e:id=x.of
 ·rw[bB e,e,hr];simp[h3]
 ·rw[bE e]
  cases h4:rev es id with
  |some j=>simp
  |none=>simp;exact λ_ h5=>absurd h5.symm e
theorem amU {es:List aI} {x:aI} (h3:x.kind≠3) (id:Int):rev (es++ [x]) id=rev es id:=by
 rw[abC]
 cases h4:rev es id with
 |some j=>simp
 |none=>simp[h3]
theorem abe {C:aI->Int} {es:List aI} {x:aI} (hl:es.length<2000):
 qi C es x=if C x=0 then (if (get es x.id).isSome then 9 else if x.kind=3 then mX es x else 0) else C x:=by
 unfold qi;have: ¬ 2000<=es.length:=O;simp only[bE this]
 by_cases h1:C x=0
 ·rw[bB h1,bB h1]
  by_cases h2:(get es x.id).isSome=ae
  ·rw[bB h2,bB h2]
  ·rw[bE h2,bE h2]
   by_cases h3:x.kind=3
   ·rw[bB h3,bB h3]
    by_cases h4:mX es x=0
    ·rw[bB h4,h4]
    ·rw[bE h4]
   ·rw[bE h3,bE h3]
 ·rw[bE h1,bE h1]
end Jn
structure rQ (w1 w:Z) (jb b1 b2:Nat) (fP:Array aj) (v:aj) (L es:List aI) (n1 n2:Nat) (f1 f2:Int->Option Int):Prop where
 j0:w1.heap.size<=jb
 m10:w1.heap.size<=b1
 m20:w1.heap.size<=b2
 m12:b1≠b2
 below:Below w1.heap.size w1 w
 blk:au w jb 238 (og fP v b1 b2)
 row:w.ownsRow w1.heap.size 107 7 v L.length (cellsOf aI.cells L)
 lines: ∀ x∈L,gp bq.cells w1.heap.size 131 3 w x.lines
 same:L.map rV=es.map rV
 m1:gZ ak 3 3 w b1 n1 f1
 m2:gZ ak 3 3 w b2 n2 f2
section
variable {w1 w w':Z} {jb b1 b2:Nat} {fP:Array aj} {v:aj} {L es:List aI} {n1 n2:Nat} {f1 f2:Int->Option Int}
theorem vZ.mid (h:vZ w1 w jb b1 b2 fP v L es):rQ w1 w jb b1 b2 fP v L es es.length es.length (λid=>(Jn.get es id).map Int.ofNat) (Jn.rev es):=
 ⟨h.j0,h.m10,h.m20,h.m12,h.below,h.blk,h.row,h.lines,h.same,h.m1,h.m2⟩
theorem rQ.step (h:rQ w1 w jb b1 b2 fP v L es n1 n2 f1 f2) (hb:Below w.heap.size w w'):rQ w1 w' jb b1 b2 fP v L es n1 n2 f1 f2:=
 ⟨h.j0,h.m10,h.m20,h.m12,h.below.trans (hb.mono h.below.size),h.blk.step hb,dF h.row hb,λx hx=>dF (h.lines x hx) hb,h.same,h.m1.step hb,h.m2.step hb⟩
theorem vZ.step (h:vZ w1 w jb b1 b2 fP v L es) (hb:Below w.heap.size w w'):vZ w1 w' jb b1 b2 fP v L es:=
 ⟨h.j0,h.m10,h.m20,h.m12,h.below.trans (hb.mono h.below.size),h.blk.step hb,dF h.row hb,λx hx=>dF (h.lines x hx) hb,h.same,h.m1.step hb,h.m2.step hb⟩
theorem rQ.abk (h:rQ w1 w jb b1 b2 fP v L es n1 n2 f1 f2) {g:Int->Option Int} {n:Nat} (hg:w.grownBy w' (N b1)) (hm:gZ ak 3 3 w' b1 n g):rQ w1 w' jb b1 b2 fP v L es n n2 g f2:=
 ⟨h.j0,h.m10,h.m20,h.m12,ni h.below hg h.below.size (λj hj=>by injection hj with hj;rw[<- hj];exact h.m10),h.blk.grown hg (λe=>by injection e with e;exact h.m1.lI h.blk e.symm),h.row.kept hg (.inr (λe=>h.m1.De h.row e.symm)),λx hx=>(h.lines x hx).kept hg (.inr (λe=>h.m1.De (h.lines x hx) e.symm)),h.same,hm,h.m2.kept hg (λe=>by injection e with e;exact h.m12 e.symm)⟩
theorem rQ.al5 (h:rQ w1 w jb b1 b2 fP v L es n1 n2 f1 f2) {g:Int->Option Int} {n:Nat} (hg:w.grownBy w' (N b2)) (hm:gZ ak 3 3 w' b2 n g):rQ w1 w' jb b1 b2 fP v L es n1 n f1 g:=
 ⟨h.j0,h.m10,h.m20,h.m12,ni h.below hg h.below.size (λj hj=>by injection hj with hj;rw[<- hj];exact h.m20),h.blk.grown hg (λe=>by injection e with e;exact h.m2.lI h.blk e.symm),h.row.kept hg (.inr (λe=>h.m2.De h.row e.symm)),λx hx=>(h.lines x hx).kept hg (.inr (λe=>h.m2.De (h.lines x hx) e.symm)),h.same,h.m1.kept hg (λe=>by injection e with e;exact h.m12 e),hm⟩
theorem rQ.more {v':aj} {x:aI} (h:rQ w1 w jb b1 b2 fP v L es n1 n2 f1 f2) (hG:fP.size=21) (hx:gp bq.cells w1.heap.size 131 3 w x.lines) (hg:w.grownBy w' v.ownBlock)
 (hr:w'.ownsRow w1.heap.size 107 7 v' (L++ [x]).length (cellsOf aI.cells (L++ [x]))) {y:aI} (hy:rV x=rV y):rQ w1 (w'.setCell ⟨jb,21,J⟩ v') jb b1 b2 fP v' (L++ [x]) (es++ [y]) n1 n2 f1 f2:=by
 have EO:N jb≠v.ownBlock:=gF h.row h.blk aJ;have hB:au w' jb 238 (og fP v b1 b2):=h.blk.grown hg EO;have ZT: ∀ z∈L++ [x],gp bq.cells w1.heap.size 131 3 w' z.lines:=λz hz=>by
  rcases il.1 hz with hz|hz
  ·exact aa5 (h.lines z hz) h.row aJ hg
  ·rw[iJ]at hz;subst hz;exact aa5 hx h.row aJ hg
 have hm1:gZ ak 3 3 w' b1 n1 f1:=h.m1.kept hg (h.m1.De h.row);have hm2:gZ ak 3 3 w' b2 n2 f2:=h.m2.kept hg (h.m2.De h.row);have hset:w'.grownBy (w'.setCell ⟨jb,21,J⟩ v') (N jb):=⟨rfl,rfl,rfl,aL,λk _ hk=>heap_setCell_other w' ⟨jb,21,J⟩ k v' (λe=>hk (by simp[e]))⟩;have hbel:Below w1.heap.size w1 w':=ni h.below hg h.below.size (λj hj=>(h.row.lt j hj).1);refine⟨h.j0,h.m10,h.m20,h.m12,hbel.setCell (p:=⟨jb,21,J⟩) h.j0 _,?_,hr.kept hset (.inr (λe=>gF hr hB aJ e.symm)),λz hz=>(ZT z hz).kept hset (.inr (λe=>gF (ZT z hz) hB aJ e.symm)),?_,hm1.kept hset (λe=>by injection e with e;exact hm1.lI hB e),hm2.kept hset (λe=>by injection e with e;exact hm2.lI hB e)⟩
 ·have:=hB.bZ 21 v'
  rwa [ajm hG]at this
 ·rw[mJ,mJ,h.same];simp only[vv,Ih,hy]
theorem rQ.done {x:aI} (h:rQ w1 w jb b1 b2 fP v L (es++ [x]) n1 n2 f1 f2) (hn1:n1<=es.length+1) (hn2:n2<=es.length+1)
 (hf1: ∀ id,f1 id=(Jn.get (es++ [x]) id).map Int.ofNat) (hf2: ∀ id,f2 id=Jn.rev (es++ [x]) id):vZ w1 w jb b1 b2 fP v L (es++ [x]):=
 ⟨h.j0,h.m10,h.m20,h.m12,h.below,h.blk,h.row,h.lines,h.same,(h.m1.congr hf1).more (by rw[fK];exact hn1),(h.m2.congr hf2).more (by rw[fK];exact hn2)⟩
end
end Go.Proofs.YtbedbfdhfokifaaGreat
