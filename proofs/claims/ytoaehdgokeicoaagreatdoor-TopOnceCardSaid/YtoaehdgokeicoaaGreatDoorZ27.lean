/- TopOnce holds (its card), of every input, without conditions: the end of the proof. -/
import Derived.Test.YtoaehdgokeicoaaGreatDoorZ25
import Derived.Test.YtoaehdgokeicoaaGreatDoorZ26
set_option maxRecDepth 100000
set_option maxHeartbeats 30000000
set_option linter.all false
namespace Go.Proofs.YtoaehdgokeicoaaGreatDoor
open K9 Z9 Go.Proofs.Tryz
section
variable{w v u:eI}{n k m i j p b c d g N B K G M:Nat}{x y z:eS}{D E F:Int}{A C H I:fE}{l L J:fY}{r s t:fe}{f:ik}{a:Act}{O:List Oper}{kB kC:List (eS×fS)}{kE:Oper}{kG:Array Oper}{kJ:kx}
section
open Go.RowKit Go.Maps Pl
section
section
variable {w w':eI} {x:L8} {d:Nat} {OA:fE} {oc:Nat} {order:fe} {cnt hnd:Nat->Nat} {s:LS} {E:List (eS×fS)} {hs:List Hn} {next:Nat}
def rn(cnt:Nat->Nat)(k:Nat):fe:=(List.range k).filter λr=>decide (1<=r/\0<cnt r)
theorem LO(cnt:Nat->Nat)(a:Nat):rn cnt (a+1)=if 1<=a/\0<cnt a then rn cnt a++[a] else rn cnt a:=by unfold rn;rw[un,Dy];by_cases h:1<=a/\0<cnt a<;>simp[h]
theorem Jh(cnt:Nat->Nat)(a:Nat):(rn cnt a).length<=a:=by have:=n8 (λb=>decide (1<=b/\0<cnt b)) (List.range a);simpa[rn] using this
def ro(order st:fe)(j:Nat):fS:=j2 (order.drop j) st
theorem LP{order st:fe}(a:n<order.length):ro order st n=if order[n]∈st then ro order st (n+1) else ro order st (n+1)++[-((order[n]:Nat):Int)]:=by unfold ro j2;rw[sN a,List.reverse_cons,Dy,iC];by_cases h:order[n]∈st<;>simp[h]
def tW(order st:fe)(k:Nat):fe:=(order.take k).filter λy=>decide (y∈st)
theorem LQ{order st:fe}(a:n<order.length):tW order st (n+1)=if order[n]∈st then tW order st n++[order[n]] else tW order st n:=by unfold tW;rw[iz a,Dy];by_cases h:order[n]∈st<;>simp[h]
theorem Qb.put{n g:Nat}{A:fE}(h:Qb w x d OA oc order cnt hnd n A v)(f:eQ v g 71 kJ)(j:v.grownBy w' (some g))(k:w.heap.size<=g)(l:x.B<=w.heap.size)(i:x.xp<w.heap.size/\x.hg<w.heap.size):Qb w x d OA oc order cnt hnd n A w':=by
 have b:CH w [71] [] v w':=fi.mono (fi.grown j) λa c=>by simp only[fd] at c;subst c;exact⟨k,.inl ⟨_,_,_,f,by simp⟩⟩
 obtain⟨m,o,p,r,hs,s,t⟩:=h.sh;exact⟨⟨m,o,p,r,hs.ch b (by decide),s,t.ch b⟩,λa c=>by
  have u:a<w.heap.size:=by rcases c with rfl|rfl;exact i.1;exact i.2
  exact(b.block a (nX u h.lw.size) (λhs=>by have:=hs.1;omega)).trans (h.kb a c),λa kJ f=>fi.eH b (h.kt a kJ f) (λhs=>by have:=f.lt;have:=hs.1;omega),h.lw.trans (b.lw l)⟩
theorem Qb.kc{n:Nat}(h:Qb w x d OA oc order cnt hnd n A w'):∃u:KW [x.xp,x.hg] w,w'=u.w:=
 ⟨⟨w',λb a=>by simp only[fm,gp,gq] at a;exact h.kb b a⟩,rfl⟩
theorem Hp(h:sj w x d OA oc order cnt hnd order cnt hnd s E hs next){n:Nat}(h1:1<=n)(hn:n<x.es.length)(hc:0<cnt n)(bb:d<150):
 Calls prog 6 #[fw x.xp,eE (n:Nat)] w λe w'=>e=fH (fz true)/\RZ w' x (d+1)/\Lw x.B w w':=by
 have bc:=h.c.n13;have t:=h.eH;unfold PH at t;have Q:x.xp<w.heap.size/\x.hg<w.heap.size:=⟨h.eH.lt,(h.BR.lt x.hg rfl).2⟩;have e0:=λu:KW [x.xp,x.hg] w=>u.cell (t.ce 0 (fw x.wp)) (by simp);have e1:=λu:KW [x.xp,x.hg] w=>u.cell (t.ce 5 (fN x.hg 13 13)) (by simp);have e2:=λu:KW [x.xp,x.hg] w=>u.cell (h.TY (n:=n) (by omega)) (by simp);have aA:=eD (λw' (U:eF w w')=>(h.ext U).close h1 hn hc (by omega));have aB:=eD h.mi.sh.nodup;have bB:cnt n<=200:=by obtain⟨k,hy,_,_,bC,_⟩:=h.mi.IZ n h1 (by omega) hc;have:=h.wb.bd.2.2.2.2.2 k hy;omega
 have bD:x.xp≠x.cg:=λe=>by have:=sL h.BQ;rw[<-e] at this;exact absurd (show eQ w x.xp 3 _ from this) (λt=>(h.eH.ne t (by decide)) rfl)
 have aP:=eY h.lo.2.1 (lN h.eH.lt);clear h t bb;go_in;go_wp
 go_cut [5] (λs5 wx=>∃(g:Nat) (y D:fE) (c F:Nat),s5=fw g/\eQ wx g 71 (gS 0 (.slice y (j2 order (lR x cnt n)).length c) (.slice D (j2 order (lR x cnt n)).length F)).toArray/\Qb w x d OA oc order cnt hnd n y wx)
 case first=>
  refine rx [x.xp,x.hg] [0,1,2,3,4,5,6,7,8,9,10,11] [13] (.jG (.e [12] (.e [13] (.e [14] .done))) (.e [13] (.e [12] (.e [14] .done)))) ?_;repeat(go_big_quiet_step (fail))
  refine eO ?_;clear e0 e1 e2;have HV:=eD (eF.drew w);generalize World.drew w=v0 at*;refine fX ?_ ?_
  ·skip
   refine eT ?_;go_wp
   refine(aA v0 HV).mono ?_;rintro e y1 ⟨y,D,c,F,rfl,j⟩;have aQ:=j.ext HV (eF.alloc y1 (eN jf 71)) Q;have ai:=eQ.new y1 71 jf;obtain⟨l,I⟩:∃l,l=gS 0 (.slice y (j2 order (lR x cnt n)).length c) (.slice D (j2 order (lR x cnt n)).length F):=⟨_,rfl⟩;rw[<-I];have J:Hid (l.length=13/\(∀u∈l,u.oneCell'=true)/\l=gS 0 (.slice y (j2 order (lR x cnt n)).length c) (.slice D (j2 order (lR x cnt n)).length F)):=eD ⟨by rw[I];rfl,by rw[I];exact vb _ _ _ _ _ _ _,I⟩;have aC:=eY HV.size j.lw.size;clear I j;go_wp2;refine iH ?_;refine eZ ?_;go_wp
   generalize y1.heap.size=g at*;generalize y1.alloc (eN jf 71)=y2 at*;have V:=eD aQ;have R:=eD ai;clear aQ ai;refine⟨V.kc, ?_⟩;refine eT ?_;go_wp2_with (refine eG rfl 71 (.tmp 5) (.tmp 26) rfl g rfl l rfl R J.2.1 (by rw[J.1];kernel_rfl) (by rw[J.1];rfl) ?_)
   intro y3 b3 g3;have V:=eD (V.put R g3 aC aP Q);rw[J.2.2] at b3;have R:=eD b3;clear b3 g3 J;go_wp
   refine iH ?_;refine fP ?_;go_wp
   go_meet;exact⟨g,y,D,c,F,rfl,R,V⟩
  ·skip
   refine eZ ?_;go_wp
   have ai:=eQ.new v0 71 jf;have aR:=eF.alloc v0 (eN jf 71);have aC:=HV.size;generalize v0.heap.size=g at*;generalize v0.alloc (eN jf 71)=v1 at*;have aD:=eD (HV.trans aR);have R:=eD ai;clear aR ai HV;refine⟨⟨⟨v1,λb t=>aD.below.block b (by
    simp only[fm,gp,gq] at t;rcases t with rfl|rfl
    ·exact Q.1
    ·exact Q.2)⟩,rfl⟩, ?_⟩
   refine eT ?_;go_wp
   refine(aA v1 aD).mono ?_;rintro e y1 ⟨y,D,c,F,rfl,j⟩;obtain⟨l,I⟩:∃l,l=gS 0 (.slice y (j2 order (lR x cnt n)).length c) (.slice D (j2 order (lR x cnt n)).length F):=⟨_,rfl⟩;rw[<-I];have J:Hid (l.length=13/\(∀u∈l,u.oneCell'=true)/\l=gS 0 (.slice y (j2 order (lR x cnt n)).length c) (.slice D (j2 order (lR x cnt n)).length F)):=eD ⟨by rw[I];rfl,by rw[I];exact vb _ _ _ _ _ _ _,I⟩;have aE:=eD (j.kt _ _ R);have V:=eD (j.ext aD (eF.refl y1) Q);clear I j R;go_wp2;refine iH ?_;refine eT ?_;go_wp2_with (refine eG rfl 71 (.tmp 5) (.tmp 26) rfl g rfl l rfl aE J.2.1 (by rw[J.1];kernel_rfl) (by rw[J.1];rfl) ?_)
   intro y3 b3 g3;have V:=eD (V.put aE g3 aC aP Q);rw[J.2.2] at b3;have R:=eD b3;clear b3 g3 J aE;go_wp
   refine iH ?_;refine fP ?_;go_wp
   go_meet;exact⟨g,y,D,c,F,rfl,R,V⟩
 case rest=>
 obtain⟨g,y,D,c,F,rfl,af,j⟩:=hcut;obtain⟨s2,E2,bd,be,aj,c9,aS⟩:=j.sh;generalize wc=W at*;have aT:=eD j.lw;have aU:=eD aS;have aF:=eD af;have HS:=eD aj;have t:=aj.eH;unfold PH at t;have k4:=t.ce 4 (fN x.cg 13 13);have G:=aj.RU (n:=n) (by omega);have fc:=aj.BQ.frozenAt n;clear e0 e1 e2 aA j aj af t aS;go_wp
 have aV:(((cnt n- 1:Nat)):Int)=(cnt n:Int)- 1:=by omega
 obtain⟨o,aq⟩:∃bf,bf=km cnt n (cnt n- 1):=⟨_,rfl⟩;have ar:fo 0 (W.setCell (eJ x.cg n) (eE ((cnt n:Int)- 1))) (s2.rows++(wu x.es OA oc order x.cg x.hg o hnd++E2)):=by have:=fo.PI (i:=n) (u:=(cnt n:Int)- 1) (a:=s2.rows++[(.slice OA order.length oc,eM order)]) (b:=(.slice (some ⟨x.hg,0,none⟩) 13 13,eM (lj hnd))::(x.es.map λe=>(e.cell,eM e.l))++E2) (g:=x.cg) (c:=13) (l:=eM (lj cnt)) (l':=eM (lj o)) (by simpa[wu] using HS.rows) (nI _) (by omega) (by have:=zz cnt (n:=n) (by omega) (cnt n- 1);rw[aV] at this;rw[aq];exact this);simpa[wu] using this
 have au:CH 0 [3] [] W (W.setCell (eJ x.cg n) (eE ((cnt n:Int)- 1))):=CH.pD HS.BQ (by simp) n _;have aW:Lw x.B W (W.setCell ⟨x.cg,n,none⟩ (.int .i64 ((cnt n:Int)- 1))):=fi.mono (fi.set _ x.cg n _) λf hk=>by rw[hk];exact HS.lo.2.2.1
 have aG:=HS.re au ar (CH.refl 0 _ _ _) (au.eH HS.eH) HS.ol;rw[<-aq] at aG;have aX:=eD (aT.trans aW);have S:=eD aG;have aF:=eD (au.eH aF);have bg:Hid (∀k,k∈lR x cnt n↔∃H,(1<=H/\H<=x.es.length- 1/\0<o H)/\RT (mQ x.es) H k):=eD (by rw[aq];exact FO S.c cnt n);have bh:Hid ((W.setCell (eJ x.cg n) (eE ((cnt n:Int)- 1))).ownsRow 0 3 1 (.slice y (j2 order (lR x cnt n)).length c9) (j2 order (lR x cnt n)).length (ints (j2 order (lR x cnt n)))):=eD (by have h9:=aU.out;have aY:=h9.nodup;have bi:=h9.mem (p:=(.slice y (j2 order (lR x cnt n)).length c9,j2 order (lR x cnt n))) (by simp);refine(fi.set W x.cg n _).own bi λf hk e=> ?_;subst e;rw[jC] at aY;have aH:=(kF.1 aY).2.1;have hm:x.cg∈iG (wu x.es OA oc order x.cg x.hg cnt hnd++E2):=fu.2 ⟨(fN x.cg 13 13,eM (lj cnt)),by simp[wu],rfl⟩;unfold iG at aH hm;rw[MV,hk] at aH;exact(ph.1 aH).1 hm)
 clear ar au aW aG aT HS k4 G fc aV aq aU;generalize W.setCell (eJ x.cg n) (eE ((cnt n:Int)- 1))=w3 at*;have t:=S.eH;unfold PH at t;have ag:=eD t;clear t;go_loopw [6,7] (λX i wr=>∃(f:Nat) (K:fE) (O:Nat),1<=f/\f<=x.es.length/\i=eE f/\X=.slice K (rn o f).length O/\OR w3 wr 3 1 X (rn o f).length (ints (eM (rn o f)))) (λ_ i _=>x.es.length- (intOf i).toNat)
 case atStart=>exact⟨1,none,0,fJ _,by omega,rfl,by simp[rn],by simpa[rn,ints,eM] using OR.nil (eF.refl _) _ _⟩
 case round=>
  obtain⟨f,K,O,bj,hk,rfl,rfl,j⟩:=hrel;have r:=eD j;have k2:=j.ext.cell (ag.ce 2 (.slice x.NA x.es.length x.nc));by_cases Q:f<x.es.length
  ·have k4:=j.ext.cell (ag.ce 4 (fN x.cg 13 13));have G:=j.ext.cell (S.RU (n:=f) (by omega));have A:=eD (LO o f);have bE:=Jh o f;generalize rn o f=out at*;clear j;by_cases hp:0<o f
   ·have v:Hid (rn o (f+1)=out++[f]):=eD (by rw[A,fW ⟨bj,hp⟩]);have aZ:((o f:Nat):Int)>0:=by omega
    clear A;have ak:=r.ext.size;go_wp2_with (at_builtin;go_loud(refine jQ rfl _ _ rfl r.own ak rfl [eE (f:Nat)] rfl rfl (by simp[Value.oneCell']) (by omega) ?_))
    intro v7 w7 Y Z _;have P:=r.LN Y Z;obtain⟨A7,c7,rfl⟩:=P.mb;have al:Hid (OR w3 w7 3 1 (.slice A7 (out++[f]).length c7) (out++[f]).length (ints (eM (out++[f])))):=eD (by rw[qh,fT];exact P);have ad:Hid (out.length+1=(out++[f]).length):=eD (by simp);clear Y Z P r k2 k4 G;generalize out++[f]=a0 at*;go_wp
    go_roundw
    case rel=>exact⟨f+1,A7,c7,by omega,by omega,by go_num,by rw[v,ad],by rw[v,ad];exact al⟩
    case measure=>simp[intOf];omega
   ·have v:Hid (rn o (f+1)=out):=eD (by rw[A,fG (λh=>hp h.2)]);have aZ:o f=0:=by omega
    rw[aZ] at G;clear A;go_wp
    go_roundw
    case rel=>exact⟨f+1,K,O,by omega,by omega,by go_num,by rw[v],by rw[v];exact r⟩
    case measure=>simp[intOf];omega
  ·obtain rfl:f=x.es.length:=by omega
   have a1:=eD (FR x.es S.c.ri x.NA x.nc (rn o x.es.length) (λH hr=>by have:=(jb.1 hr).1;exact ll.1 this) (by have:=Jh o x.es.length;omega) K O wr (S.Wg.ext j.ext) (j.rd rfl));have aI:=eD j.ext;clear j r;have a2:=eD (λH=>(by simp[rn]:H∈rn o x.es.length↔H<x.es.length/\1<=H/\0<o H));generalize rn o x.es.length=bF at*;have k3:=aI.cell (ag.ce 3 (.slice OA order.length oc));have bG:=eY (iM (m:=x.es.length) order aB.1 (λk hy=>by have:=aB.2 k hy;omega)) bc.2;go_wp
   refine a1.mono ?_;rintro e w5 ⟨st,a3,bH,sv,rfl,aJ,U⟩;obtain⟨SA,sc,rfl⟩:=eR aJ;have bk:=eD (Rd.fC aJ);have am:=eD (aI.trans U);have a4:Hid (∀k,k∈st↔k∈lR x cnt n):=eD (λk=>by rw[a3 k,bg k];refine exists_congr λH=>and_congr_left λ_=> ?_;rw[a2 H];exact⟨λh=>⟨h.2.1,by omega,h.2.2⟩,λh=>⟨by omega,h.1,h.2.2⟩⟩)
   have k3:=am.cell (ag.ce 3 (.slice OA order.length oc));clear a3 aJ U a1 a2 k2 aI;go_wp2;have av:=eD (am.rd S.U1);have aw:=eD (λw' (U:eF w5 w') (k:Nat)=>xg SA st.length sc (eM st) k w' (U.rd bk) (fv _) (by omega));go_loopw [9,11] (λX i wr=>∃(T:Nat) (q:Int) (K:fE) (O:Nat),T<=order.length/\i=eE q/\q=(T:Int)- 1/\X=.slice K (ro order st T).length O/\OR w5 wr 3 1 X (ro order st T).length (ints (ro order st T))) (λ_ i _=>(intOf i+1).toNat)
   case atStart=>exact⟨order.length,_,none,0,fJ _,rfl,rfl,by simp[ro,j2],by simpa[ro,j2,ints] using OR.nil (eF.refl _) _ _⟩
   case round=>
    obtain⟨T,q,K,O,hj,rfl,hq,rfl,j⟩:=hrel;have r:=eD j;by_cases bl:T=0
    ·subst bl;obtain rfl:q= -1:=by omega
     clear hq;obtain⟨ax,ay⟩:∃l,l=ro order st 0:=⟨_,rfl⟩;have a5:Hid (ax=j2 order (lR x cnt n)):=eD (by rw[ay];unfold ro;rw[vw];exact PX a4);rw[<-ay] at j ⊢;have aK:=eD j.own;have az:=eD (am.trans j.ext);have av:=eD (j.ext.rd av);have aw:=eD (λw' (U:eF wr w') k=>aw w' (j.ext.trans U) k);have bm:ax.length<=13:=by
      have h1:ax.length<=order.length:=by rw[ay];simp only[ro,j2,gW];exact eY (n8 _ _) (by simp)
      omega
     have k3:=az.cell (ag.ce 3 (.slice OA order.length oc));clear j r ay am;go_wp
     generalize wr=wb at*;go_loopw [99,10] (λi X wr=>∃(f:Nat) (K:fE) (O:Nat),f<=order.length/\i=eE f/\X=.slice K (tW order st f).length O/\OR wb wr 3 1 X (tW order st f).length (ints (eM (tW order st f)))) (λi _ _=>order.length- (intOf i).toNat)
     case atStart=>exact⟨0,none,0,eX _,rfl,by simp[tW],by simpa[tW,ints,eM] using OR.nil (eF.refl _) _ _⟩
     case round=>
      obtain⟨f,kA,G,hk,rfl,rfl,j⟩:=hrel;have r:=eD j;by_cases Q:f<order.length
      ·obtain⟨b,bn,rfl,aL,d0⟩:=ja (j.ext.rd av) Q;have A:=eD (LQ (st:=st) Q);have z:=aw wr j.ext order[f];rw[oK] at z;have bI:(tW order st f).length<=13:=eY (n8 _ _) (by rw[ig];omega);generalize order[f]=k at*;generalize tW order st f=out at*;clear j aL k3;by_cases C:k∈st
       ·rw[jU C] at z;have ah:=eD z;have v:Hid (tW order st (f+1)=out++[k]):=eD (by rw[A,fW C]);clear C A z;go_wp
        refine ah.mono ?_;rintro e w6 ⟨rfl,rfl⟩;have ak:=r.ext.size;go_wp2_with (at_builtin;go_loud(refine jQ rfl _ _ rfl r.own ak rfl [eE (k:Nat)] rfl rfl (by simp[Value.oneCell']) (by omega) ?_))
        intro v7 w7 Y Z _;have P:=r.LN Y Z;obtain⟨A7,c7,rfl⟩:=P.mb;have al:Hid (OR wb w7 3 1 (.slice A7 (out++[k]).length c7) (out++[k]).length (ints (eM (out++[k])))):=eD (by rw[qh,fT];exact P);have ad:Hid (out.length+1=(out++[k]).length):=eD (by simp);clear Y Z P r d0;generalize out++[k]=a0 at*;go_wp
        go_roundw
        case rel=>exact⟨f+1,A7,c7,by omega,by go_num,by rw[v,ad],by rw[v,ad];exact al⟩
        case measure=>simp[intOf];omega
       ·rw[kD C] at z;have ah:=eD z;have v:Hid (tW order st (f+1)=out):=eD (by rw[A,fG C]);clear C A z;go_wp
        refine ah.mono ?_;rintro e w6 ⟨rfl,rfl⟩;go_wp2;go_roundw
        case rel=>exact⟨f+1,kA,G,by omega,by go_num,by rw[v],by rw[v];exact r⟩
        case measure=>simp[intOf];omega
      ·obtain rfl:f=order.length:=by omega
       obtain⟨ae,aM⟩:∃l,l=tW order st order.length:=⟨_,rfl⟩;have bo:Hid (ae=order.filter λk=>decide (k∈lR x cnt n)):=eD (by rw[aM];unfold tW;rw[iT];exact E3 λk _=>by rw[decide_eq_decide];exact a4 k)
       rw[<-aM] at j ⊢;have bp:=eD j.ext;have an:=eD (az.trans j.ext);have a6:=eD j.own;have bq:=az.size;have af:=an.eH ag;have bJ:=af.ce 3 (.slice OA order.length oc);have f37:=af.frozen 3;have aK:=eD (j.ext.own aK);have aN:=eD af;clear j r aM af k3;have ao:=an.eH aF;have g0:=ao.ce 0 (eE 0);have g2:=ao.ce 2 (.slice y (j2 order (lR x cnt n)).length c);have g3:=ao.ce 3 (.slice D (j2 order (lR x cnt n)).length F);have ap:CH 0 [31] [] wr (wr.setCell (eJ x.xp 3) (.slice kA ae.length G)):=CH.set aN (eX _) (by simp) 3 _;have a7:=ap.own (an.own bh);have a8:=ap.own aK;have a9:ax.length=(j2 order (lR x cnt n)).length:=by rw[a5]
       have br:=eD (tV (j2 order (lR x cnt n)) y K c O (j2 order (lR x cnt n)).length _ rfl (by omega) (Rd.fC a7) (by have:=Rd.fC a8;rwa [a5] at this));have bs:Hid (RZ (wr.setCell (eJ x.xp 3) (.slice kA ae.length G)) x (d+1)/\Lw x.B w (wr.setCell (eJ x.xp 3) (.slice kA ae.length G))):=eD (by
        have bt:=(S.ext az).rows;have bu:fo 0 wb (s2.rows++(((.slice (some ⟨x.cg,0,none⟩) 13 13,eM (lj o))::(.slice (some ⟨x.hg,0,none⟩) 13 13,eM (lj hnd))::x.es.map λe=>(e.cell,eM e.l))++E2)):=bt.sub ((DM _).append (tm _ _));have bv:=bu.add (N:=[(.slice kA ae.length G,eM ae)]) bp (.one (by rw[fv];exact a6)) (eX _);have ar:fo 0 wr (s2.rows++(wu x.es kA G ae x.cg x.hg o hnd++E2)):=bv.iU (by refine(wT).trans ?_;simp only[List.singleton_append];exact Fc.symm)
        have bw:=(S.ext an).re (CH.refl 0 _ _ _) ar ap (aN.set 3 _) (λf hk=>by have h1:=(a6.lt f hk).1;have h2:=aX.size;omega)
        refine⟨⟨kA,G,ae,o,hnd,s2,E2,bd,be, ?_⟩,aX.trans ((Lw.fg an).trans ((CH.set (B:=x.B) (L:=[31]) (M:=[]) aN S.lo.2.1 (by simp) 3 _).lw (fJ _)))⟩;rwa [<-bo] at bw)
       rw[a9];have bx:=eD (ap.eH ao);clear ao ap a7 a8 a9 bq;go_wp21
       refine br.mono ?_;rintro e w9 ⟨rfl,aO⟩;have c3:=(aO.eH bx).ce 3 (.slice D (j2 order (lR x cnt n)).length F);have a':=eD aO;clear aO;go_wp2;go_ret;obtain⟨⟨q1,q2,q3,q4,q5,q6,q7,q8,q9,bz⟩,bA⟩:=bs.out;exact⟨rfl,⟨q1,q2,q3,q4,q5,q6,q7,q8,q9,bz.ext a'⟩,bA.trans (Lw.fg a')⟩
    ·obtain⟨m,rfl⟩:∃m,T=m+1:=⟨T- 1,by omega⟩;obtain rfl:q=(m:Int):=by omega
     clear hq;have hm:m<order.length:=by omega
     have k3:=j.ext.cell (am.cell (ag.ce 3 (.slice OA order.length oc)));obtain⟨b,bn,rfl,aL,d0⟩:=ja (j.ext.rd av) hm;have A:=eD (LP (st:=st) hm);have z:=aw wr j.ext order[m];rw[oK] at z;have bK:=aB.2 _ (eU hm);have bm:(ro order st (m+1)).length<=13:=by
      have h1:(ro order st (m+1)).length<=(order.drop (m+1)).length:=by simp only[ro,j2,gW];exact eY (n8 _ _) (by simp)
      rw[jE] at h1;omega
     generalize order[m]=k at*;generalize ro order st (m+1)=out at*;clear j aL;by_cases C:k∈st
     ·rw[jU C] at z;have ah:=eD z;have v:Hid (ro order st m=out):=eD (by rw[A,fW C]);clear C A z;go_wp
      refine ah.mono ?_;rintro e w6 ⟨rfl,rfl⟩;go_wp2;go_roundw
      case rel=>exact⟨m,_,K,O,by omega,by go_num,rfl,by rw[v],by rw[v];exact r⟩
      case measure=>simp[intOf]
     ·rw[kD C] at z;have ah:=eD z;have v:Hid (ro order st m=out++[-(k:Int)]):=eD (by rw[A,fG C]);clear C A z;go_wp
      refine ah.mono ?_;rintro e w6 ⟨rfl,rfl⟩;have ak:=r.ext.size;go_wp2_with (at_builtin;go_loud(refine jQ rfl _ _ rfl r.own ak rfl [eE (-(k:Int))] rfl rfl (by simp[Value.oneCell']) (by omega) ?_))
      intro v7 w7 Y Z _;have P:=r.LN Y Z;obtain⟨A7,c7,rfl⟩:=P.mb;have al:Hid (OR w5 w7 3 1 (.slice A7 (out++[-(k:Int)]).length c7) (out++[-(k:Int)]).length (ints (out++[-(k:Int)]))):=eD (by rw[show ints (out++[-(k:Int)])=ints out++[.int .i64 (-(k:Int))] by simp[ints],fT];exact P);have ad:Hid (out.length+1=(out++[-(k:Int)]).length):=eD (by simp);clear Y Z P r d0 k3;generalize out++[-(k:Int)]=a0 at*;go_wp
      go_roundw
      case rel=>exact⟨m,_,A7,c7,by omega,by go_num,rfl,by rw[v,ad],by rw[v,ad];exact al⟩
      case measure=>simp[intOf]
end
end
theorem T7(a:Int):∃q:Nat,q<=65535/\bits .and .i64 a 65535=(q:Int):=by refine⟨(BitVec.ofInt 64 a).toNat&&& 65535,Nat.and_le_right, ?_⟩;have b:(BitVec.ofInt 64 a).toNat&&& 65535<=65535:=Nat.and_le_right;show IntKind.i64.wrap ((BitVec.ofInt 64 a&&& BitVec.ofInt 64 65535).toNat:Int)=_;rw[BitVec.toNat_and,show(BitVec.ofInt 64 65535).toNat=65535 from rfl,IntWalk.i64_in];omega
def C6(w:eI)(n:Nat)(e:Ending)(w':eI):Prop:=∃x d,e=fH (ij #[fw x.xp,fz true])/\x.es.length=n+1/\d<=20/\w.heap.size<=x.B/\RZ w' x d/\eF w w'
theorem RZ.ext{w w':eI}{x:L8}{d:Nat}(h:RZ w x d)(a:eF w w'):RZ w' x d:=by obtain⟨q1,b,c,f,g,i,j,k,l,m⟩:=h;exact⟨q1,b,c,f,g,i,j,k,l,m.ext a⟩
theorem BP.view{x:Nat->fe}{mt next:Nat}{a:LS}{l:List Hn}(h:BP w x n k m i j mt p b A c d g a kB kC E F l next):
 Calls prog 8 #[fw m] w (FJ w a.os 1):=by
 obtain⟨D,I,J,y⟩:=h.hd;have K:a.os.length<=13:=by
  have f:=h.lk.iO;have L:=h.lk.n12;have M:a.gd.length=a.os.length:=by simp[LS.gd]
  omega
 have t:Go.intKeys (Lr F E)=[0]:=rfl;have z:Jd (Lr F E) a.tl:=by
  refine⟨(show(1:Nat)<=10000 by omega),by rw[t];simp,λid u=> ?_⟩;rw[t] at u;obtain rfl:=fF.1 u;obtain⟨o,B⟩:∃o,a.tl.iQ=[(0,F,o)]:=by
   have f:=h.iQ;match l:a.tl.iQ with
   |[]=>rw[l] at f;simp at f
   |[(N,O,o)]=>rw[l] at f;simp only[hU,jt,zK,rH,gP] at f;exact⟨o,by rw[f.1,f.2]⟩
   |_::_::_=>rw[l] at f;simp at f
  refine⟨by omega,by omega,⟨_,_,_,_,_,_,_,At.put (D:=DataW.map []) ⟨_,rfl⟩ (show WideAt.IsKeyLit (.int .i64 0) from trivial) _⟩,F,o, ?_⟩;rw[B];exact At.put (D:=DataW.map []) ⟨_,rfl⟩ (show WideAt.IsKeyLit (.int .i64 0) from trivial) _
 have:=FK h.lk.mem h.pr y (h.wb.cell 0 rfl) h.lk.rg.wf (λr v=>⟨by
  have s:=C4 (fy.2 ⟨r,v,rfl⟩:r.bs.length∈a.rs.map λr=>r.bs.length);have C:=h.lk.rg.sum;simp only[iw,jH] at C;omega,by
  rcases h.lk.rg.uG r v with e|e|e<;>rw[e]
  ·exact .inl ⟨rfl,rfl⟩
  ·exact .inr (.inl ⟨rfl,rfl⟩)
  ·exact .inr (.inr (.inl ⟨rfl,rfl⟩))⟩) (by have:=h.lk.u1;omega) (by omega) (by have:=h.lk.ids;rwa [jD] at this) (λG H=>by
  have s:=h.lk.each G H;exact⟨by have:=s.iO;omega,by have:=s.ms;omega,s.im.Sk⟩) z
 rw[t] at this;exact this
theorem Vd(h:l.length=8):∃a b c d e f g i,l=[a,b,c,d,e,f,g,i]:=by
 match l,h with
 |[a,b,c,d,e,f,g,i],_=>exact⟨a,b,c,d,e,f,g,i,rfl⟩
theorem kw.Ve{b:Nat->fe}{a:List Ob}{next:Nat}{order:fe}{c:List Hn}{d f:Nat->Nat}(h:kw b n a k m order c next d f):a.length=1+order.length:=by obtain⟨l,g,i,_⟩:=h.sh.Ua;obtain⟨o,rfl⟩:=h.sh.prog;have j:=g.length_eq;rw[<-i,gW,j];simp only[iw,OD];omega
theorem R1(F:∀(r:fE) (v:Nat) (a:List Bk) (c:eI),Rd c r (a.map Bk.cell)->(∀b∈a,b.In c)->1<=a.length->a.length<=12->Calls prog 5 #[.slice r a v] c (C6 c a))(r:fE)(v:Nat)(a:List Bk)(b:Bk)(c:eI)(G:Rd c r (a.map Bk.cell))(H:∀b∈a,b.In c)(w:b.In c):
 Calls prog 3 #[.slice r a v,.slice b.A b.is b.c] c λe o=>e=fH (fz true)/\eF c o:=by
 have W:=eD F;have X:=eD G;have Y:=eD H;have Z:=eD w;clear F G H w;go_in;go_wp
 refine(FT c).mono ?_;rintro e w1 ⟨rfl,t⟩;have d:=eD t;clear t;by_cases y:a.length=0
 ·have ad:((a.length:Nat):Int)=0:=by omega
  go_wp2;go_ret;exact⟨rfl,d⟩
 have ad:(((a.length:Nat):Int)==0)=false:=mn.2 (by omega);by_cases aq:12<a.length
 ·have ae:((a.length:Nat):Int)>12:=by omega
  go_wp2;go_ret;exact⟨rfl,d⟩
 have ae:¬((a.length:Nat):Int)>12:=by omega
 by_cases ar:60<b.is.length
 ·have af:((b.is.length:Nat):Int)>60:=by omega
  go_wp2;go_ret;exact⟨rfl,d⟩
 have af:¬((b.is.length:Nat):Int)>60:=by omega
 go_wp21
 refine(W r v a w1 (d.rd X) (λb w=>(Y b w).ext d) (by omega) (by omega)).mono ?_;rintro e w2 ⟨z,k,rfl,au,hd,I,l,J⟩;have ag:=eD (d.trans J);have ah:=eD l;have K:=eY d.size I;clear J l I;go_wp2;go_loopw [39,7] (λi ai wr=>∃(f k:Nat),f<=b.is.length/\i=eE f/\ai=fz true/\k<=20+f/\RZ wr z k/\eF c wr) (λi _ _=>b.is.length- (intOf i).toNat)
 case atStart=>exact⟨0,k,eX _,rfl,rfl,by omega,ah,ag⟩
 case round=>
  obtain⟨f,k,hj,rfl,rfl,av,L,s⟩:=hrel;have x:=eD s;by_cases aj:f<b.is.length
  ·obtain⟨aw,ax,hA,ay,M⟩:=Z.rd.int (i:=f) aj;have M:=s.cell M;rw[hA];obtain⟨q,hq,az⟩:=T7 (b.is.getD f 0);have aA:((q:Nat):Int).tmod ((a.length:Nat):Int)=((q%a.length:Nat):Int):=by rw[Qn (by omega)];exact(Int.natCast_emod _ _).symm
   have aB:q%a.length<a.length:=pS _ (by omega);generalize q%a.length=p at*;generalize b.is.getD f 0=N at*;have O:Hid ((1:Int)+(p:Int)=((p+1:Nat):Int)):=eD (by omega);obtain⟨P,Q,order,A,ak,j,al,am,next,g⟩:=L;have B:=eD g;have m:=g.eH;unfold PH at m;have R:=m.ce 4 (fN z.cg 13 13);have C:=g.RU (n:=1+p) (by omega);clear g m s;by_cases ha:N<0
   ·by_cases an:A (1+p)=0
    ·rw[an] at C;go_wp2;go_roundw
     case rel=>exact⟨f+1,k,by omega,by go_num,rfl,by omega,⟨_,_,_,_,_,_,_,_,_,B⟩,x⟩
     case measure=>simp[intOf];omega
    ·have aC:(((A (1+p):Nat):Int)==0)=false:=mn.2 (by omega);go_wp21
     rw[O];refine(Hp B (n:=p+1) (by omega) (by omega) (by rw[D5];omega) (by omega)).mono ?_;rintro e w4 ⟨rfl,l,u⟩;have D:=eD (u.ext x K);have E:=eD l;clear l u R C;go_wp2;go_roundw
     case rel=>exact⟨f+1,k+1,by omega,by go_num,rfl,by omega,E,D⟩
     case measure=>simp[intOf];omega
   ·have aD:N>=0:=by omega
    go_wp21
    rw[O];refine(LL B (n:=p+1) (by omega) (by omega) _ (by omega)).mono ?_;rintro e w4 ⟨rfl,l,u⟩;have D:=eD (u.ext x K);have E:=eD l;clear l u R C;go_wp2;go_roundw
    case rel=>exact⟨f+1,k+1,by omega,by go_num,rfl,by omega,E,D⟩
    case measure=>simp[intOf];omega
  ·obtain rfl:f=b.is.length:=by omega
   obtain⟨P,Q,order,A,ak,j,al,am,next,g⟩:=L;have m:=g.eH;unfold PH at m;have HV:=eD (λo (s:eF wr o)=>(g.ext s).wb.view);have ao:Hid (((j.os.length:Nat):Int)=1+((order.length:Nat):Int)):=eD (by
    have h1:=g.mi.Ve;have h3:j.gd.length=j.os.length:=by simp[LS.gd]
    omega)
   have aE:order.length<=100:=by
    have h1:=g.mi.Ve;have h2:=g.wb.lk.iO;have h3:=g.c.n13;have h4:j.gd.length=j.os.length:=by simp[LS.gd]
    omega
   have e0:=m.ew 0 (fw z.wp) rfl;have e1:=m.ew 3 (.slice P order.length Q) rfl;clear m g s;go_wp
   refine iW [0,1,2,3,7,8,9,10,11,12] [4,5,6] (.e [4] (.e [5] (.e [6] (.q [13,14] .done)))) ?_;repeat(go_big_quiet_step (fail))
   refine eO ?_;clear e0 e1;have S:=eD (eF.drew wr);generalize World.drew wr=v0 at*;refine eZ ?_;go_wp
   refine(HV v0 S).mono ?_;rintro e v1 ⟨aF,rfl,T,ap,⟨U,V,y⟩,_,t⟩;obtain⟨l0,l1,l2,l3,l4,l5,l6,l7,rfl⟩:=Vd T;simp only[QP,fd] at y;subst y;have hf:∀o,Sem.run prog (Instr.field 41 (fV #[.slice U j.os.length V,l1,l2,l3,l4,l5,l6,l7]) 0) o=.ok (.slice U j.os.length V) o:=λo=>by kernel_rfl
   clear T ap;have d:=eD (S.trans t);clear t;go_wp2;refine⟨⟨⟨_,d⟩,rfl⟩, ?_⟩;refine eZ ?_;go_wp
   refine⟨⟨⟨_,d⟩,rfl⟩, ?_⟩;refine eZ ?_;go_wp
   refine⟨⟨⟨_,d⟩,rfl⟩, ?_⟩;have hE:(((j.os.length:Nat):Int)==1+((order.length:Nat):Int))=true:=by rw[ao.out];exact Dw _
   refine fj ?_;repeat(go_big_quiet_step (fail))
   refine eO ?_;refine fP ?_;clear hf;go_wp
   go_ret;exact⟨rfl,x.trans d⟩
theorem Vh{d:Prop}{P A:eI->Nat->Nat->Nat->Prop}(k:(∀v a b c,A v a b c->P v a b c)->d)(l:∀v a b c,A v a b c->P v a b c):d:=k l
def Bq(w v:eI)(l:List (Nat×ik×kx)):Prop:=eF w v/\(∀x∈l,eQ v x.1 x.2.1 x.2.2/\w.heap.size<=x.1)/\(l.map Prod.fst).Nodup
theorem Bq.al{v:eI}{l:List (Nat×ik×kx)}(h:Bq w v l)(b:kx)(c:ik):Bq w (v.alloc (eN b c)) ((v.heap.size,c,b)::l):=by
 refine⟨h.1.trans (eF.alloc _ _),λa hm=> ?_, ?_⟩
 ·rcases fm.1 hm with rfl|hm
  ·exact⟨eQ.new v c b,h.1.size⟩
  ·exact⟨(eF.alloc _ _).eH (h.2.1 a hm).1,(h.2.1 a hm).2⟩
 ·rw[hU,ph];refine⟨λhm=> ?_,h.2.2⟩;obtain⟨a,d,e⟩:=fy.1 hm;have:=(h.2.1 a d).1.lt;omega
def pI:kx:=(ints (eM (lj λ_=>0))).toArray
theorem Vi(a:eI):(Instr.makeSlice 23 (eE 13) (eE 13)).run prog a=.ok (fN a 13 13) (a.alloc (eN pI 3)):=by
 obtain⟨c,d,f,g,i⟩:=info_parts lr;have b:=yf (P:=prog) a 23 3 c (eE 0) underlying23 d f .i64 .i64 13 13 (by omega) (by omega) (by rw[i];omega) (by omega);have j:pI=madeCells #[eE 0] 13:=by apply Mr.1;rw[wI];rfl
 rw[show((13:Int)).toNat=13 from rfl] at b;rw[b,g,j];rfl
theorem P2{q:Nat}(h:1<=q):(⟨#[47,108,105,98,47]⟩:jw)++fI (nB q)=fI (jk q):=by
 refine p6 _ _ ?_;have a:q≠0:=by omega
 simp[jk,qK,a,ff,hH,fI,ByteArray.data_append]
theorem Ai:(prog.info? 63).map (λa=>(a.zero,a.size,a.bytes))=some (some (.agg #[.int .i64 0,.string ⟨#[]⟩,.string ⟨#[]⟩,.slice none 0 0,.int .i64 0,.int .i64 0,.int .i64 0]),7,88):=by kernel_rfl
theorem P3{rest:List Oper}{o:Exit->Act->eI->Prop}(r:kE.guard=none)(i j:Operand)(s:kE.op=.call {callee:=.builtin .append,args:=#[i,j],argTypes:=#[73,73]}){b:eS}{f:Nat}{k:fY}(h:w.ownsRow n 63 7 b f k)(t:n<=w.heap.size)(u:a.eval i=b)(l:fE)(p:Nat)(c:fY)(d:Nat)(v:a.eval j=.slice l d p)(x:c.length=d*7)(y:Rd w l c)(z:∀A∈c,A.oneCell'=true)(H:f+d<=1000000)(B:∀g m,m.ownsRow n 63 7 g (f+d) (k++c)->w.grownBy m b.ownBlock->(g.ownBlock=b.ownBlock\/g.ownBlock=some w.heap.size)->wpList prog kG o rest (a.put kE.dst g) m):wpList prog kG o (kE::rest) a w:=by obtain⟨C,D,E,F,G⟩:=info_parts Ai;exact fB r i j 73 s n 63 C _ 7 88 underlying73 D E F G rfl (by omega) b f k u h l p c d v x y z (by unfold maxLen;omega) (by omega) t B
theorem BW{rest:List Oper}{l:Exit->Act->eI->Prop}(o:kE.guard=none)(g i:Operand)(p:kE.op=.call {callee:=.builtin .append,args:=#[g,i],argTypes:=#[73,73]}){v:eS}{n:Nat}{xs:fY}(h:w.ownsRow m 63 7 v n xs)(B:m<=w.heap.size)(r:a.eval g=v)(b:fY)(s:a.eval i=fN w 1 1)(t:b.length=7)(u:∀x∈b,x.oneCell'=true)(C:n<1000000)(y:∀c d,d.ownsRow m 63 7 c (n+1) (xs++b)->(w.alloc (eN b.toArray 63)).grownBy d v.ownBlock->(∀k,c.ownBlock=some k->v.ownBlock=some k\/w.heap.size<=k)->wpList prog kG l rest (a.put kE.dst c) d):wpList prog kG l (kE::rest) a (w.alloc (eN b.toArray 63)):=
 P3 o g i p ((eF.alloc _ _).own h) (by rw[fM];omega) r _ 1 b 1 s (by simpa using t) (by simpa using ip w b.toArray _) u (by omega) λc d z A f=>y c d z A λk j=>by
  rcases f with f|f
  ·exact .inl (f▸j)
  ·rw[f] at j;simp only[fM,fd] at j;exact .inr (by omega)
theorem zC:(prog.info? 51).map (λa=>(a.zero,a.size,a.bytes))=some (some (.agg #[.string ⟨#[]⟩,.int .i64 0,.slice none 0 0,.slice none 0 0,.slice none 0 0,.slice none 0 0,.slice none 0 0,.slice none 0 0,.slice none 0 0]),9,192):=by kernel_rfl
theorem LU{rest:List Oper}{j:Exit->Act->eI->Prop}(m:kE.guard=none)(f g:Operand)(o:kE.op=.call {callee:=.builtin .append,args:=#[f,g],argTypes:=#[29,29]}){v:eS}{n:Nat}{xs:fY}(h:w.ownsRow k 51 9 v n xs)(p:k<=w.heap.size)(r:a.eval f=v)(A:fE)(l:Nat)(b:fY)(c:Nat)(s:a.eval g=.slice A c l)(t:b.length=c*9)(u:Rd w A b)(x:∀y∈b,y.oneCell'=true)(G:n+c<=1000000)(z:∀d i,i.ownsRow k 51 9 d (n+c) (xs++b)->w.grownBy i v.ownBlock->(d.ownBlock=v.ownBlock\/d.ownBlock=some w.heap.size)->wpList prog kG j rest (a.put kE.dst d) i):wpList prog kG j (kE::rest) a w:=by obtain⟨B,C,D,E,F⟩:=info_parts zC;exact fB m f g 29 o k 51 B _ 9 192 underlying29 C D E F rfl (by omega) v n xs r h A l b c s t u x (by unfold maxLen;omega) (by omega) p z
theorem FX(A:fE)(cap:Nat)(f:List Bk)(u:eI)(hr:Rd u A (f.map Bk.cell))(w:∀k∈f,k.In u)(h1:1<=f.length)(cy:f.length<=12):
 Calls prog 5 #[.slice A f cap] u (C6 u f):=by
 have HR:=eD hr;have bY:=eD w;have bZ:=Vi;clear hr w;go_in;go_wp
 refine(FD u).mono ?_;rintro e x ⟨PA,FA,rfl,ah,a0⟩;have ap:=eD ah;have aq:=eD a0;clear ah a0;obtain⟨sl,ar⟩:∃l,l=(kP FA 1 PA 3).eL:=⟨_,rfl⟩;rw[<-ar];have b0:=eD ar;have a1:sl.length=9:=by rw[ar];rfl
 clear ar;go_wp2_with (refine jF rfl 29 51 (.tmp 13) rfl sl 9 rfl underlying29 (by kernel_rfl) a1 (by decide) ?_)
 have ai:eF x ((x.alloc (eN sl.toArray 51)).alloc (eN #[fN x 1 1,eW,eW,fz false] 57)):=(eF.alloc _ _).trans (eF.alloc _ _);have a2:=(eF.alloc (x.alloc (eN sl.toArray 51)) (eN #[fN x 1 1,eW,eW,fz false] 57)).eH (eQ.new x 51 sl.toArray);have aH:=eQ.new (x.alloc (eN sl.toArray 51)) 57 #[fN x 1 1,eW,eW,fz false];rw[fM] at aH;have b2:=aq.size;have aI:=eD (aq.trans ai);have ap:=eD (ap.ext ai);clear ai;generalize(x.alloc (eN sl.toArray 51)).alloc (eN #[fN x 1 1,eW,eW,fz false] 57)=y at*;generalize x.heap.size=gs at*;have a3:Hid (y.ownsRow u 51 9 (fN gs 1 1) 1 (fO lM.eL [kP FA 1 PA 3])):=eD (by have:=a2.LK (n:=1) (size:=9) (B:=u.heap.size) (by rw[a1]) (by omega) b2;rw[b0] at this;simpa[fO] using this)
 have a4:=eD aH;clear a2 aH;go_cut [5] (λs5 wx=>∃g c d N:Nat,s5=fw N/\(eQ wx g 23 #[eW]/\y.heap.size<=g)/\(eQ wx c 3 pI/\y.heap.size<=c)/\(eQ wx d 3 pI/\y.heap.size<=d)/\c≠d/\(eQ wx N 31 #[.pointer none,eW,fN g 1 1,eW,fN c 13 13,fN d 13 13]/\y.heap.size<=N)/\eF y wx)
 case first=>
  refine iW [] [] (.jG (.e [0] (.jG (.e [1] (.e [2] (.q [3] (.e [4] (.q [5] .done))))) (.e [2] (.e [1] (.q [3] (.e [4] (.q [5] .done))))))) (.jG (.e [1] (.jG (.e [0] (.e [2] (.q [3] (.e [4] (.q [5] .done))))) (.e [2] (.e [0] (.q [3] (.e [4] (.q [5] .done))))))) (.e [2] (.jG (.e [0] (.e [1] (.q [3] (.e [4] (.q [5] .done))))) (.e [1] (.e [0] (.q [3] (.e [4] (.q [5] .done))))))))) ?_;refine eO ?_;have a:Hid (Bq y (World.drew y) []):=eD ⟨eF.drew y,by simp,by simp⟩;generalize World.drew y=u0 at*;apply Vh (A:=λv g c d=>eF y v/\(eQ v g 23 #[.slice none 0 0]/\y.heap.size<=g)/\(eQ v c 3 pI/\y.heap.size<=c)/\(eQ v d 3 pI/\y.heap.size<=d)/\c≠d)
  case k=>
   intro LF;refine fX ?_ ?_
   ·skip
    refine eT ?_;go_wp
    refine iH ?_;have a:=eD (a.al #[eW] 23);generalize u0.alloc (eN #[eW] 23)=z at*;generalize u0.heap.size=g at*;refine fX ?_ ?_
    ·skip
     refine eT ?_;go_wp
     refine iH ?_;have a:=eD (a.al pI 3);generalize z.alloc (eN pI 3)=r at*;generalize z.heap.size=c at*;refine eT ?_;go_wp
     refine iH ?_;have a:=eD (a.al pI 3);generalize r.alloc (eN pI 3)=H at*;generalize r.heap.size=d at*;exact LF H g c d ⟨a.1,a.2.1 _ (by simp:(g,23,#[.slice none 0 0])∈_),a.2.1 _ (by simp:(c,3,pI)∈_),a.2.1 _ (by simp:(d,3,pI)∈_),λe=>by have h:=a.2.2;simp[e] at h⟩
    refine eT ?_;go_wp
    refine iH ?_;have a:=eD (a.al pI 3);generalize z.alloc (eN pI 3)=r at*;generalize z.heap.size=d at*;refine eT ?_;go_wp
    refine iH ?_;have a:=eD (a.al pI 3);generalize r.alloc (eN pI 3)=H at*;generalize r.heap.size=c at*;exact LF H g c d ⟨a.1,a.2.1 _ (by simp:(g,23,#[.slice none 0 0])∈_),a.2.1 _ (by simp:(c,3,pI)∈_),a.2.1 _ (by simp:(d,3,pI)∈_),λe=>by have h:=a.2.2;simp[e] at h⟩
   refine fX ?_ ?_
   ·skip
    refine eT ?_;go_wp
    refine iH ?_;have a:=eD (a.al pI 3);generalize u0.alloc (eN pI 3)=z at*;generalize u0.heap.size=c at*;refine fX ?_ ?_
    ·skip
     refine eT ?_;go_wp
     refine iH ?_;have a:=eD (a.al #[eW] 23);generalize z.alloc (eN #[eW] 23)=r at*;generalize z.heap.size=g at*;refine eT ?_;go_wp
     refine iH ?_;have a:=eD (a.al pI 3);generalize r.alloc (eN pI 3)=H at*;generalize r.heap.size=d at*;exact LF H g c d ⟨a.1,a.2.1 _ (by simp:(g,23,#[.slice none 0 0])∈_),a.2.1 _ (by simp:(c,3,pI)∈_),a.2.1 _ (by simp:(d,3,pI)∈_),λe=>by have h:=a.2.2;simp[e] at h⟩
    refine eT ?_;go_wp
    refine iH ?_;have a:=eD (a.al pI 3);generalize z.alloc (eN pI 3)=r at*;generalize z.heap.size=d at*;refine eT ?_;go_wp
    refine iH ?_;have a:=eD (a.al #[eW] 23);generalize r.alloc (eN #[eW] 23)=H at*;generalize r.heap.size=g at*;exact LF H g c d ⟨a.1,a.2.1 _ (by simp:(g,23,#[.slice none 0 0])∈_),a.2.1 _ (by simp:(c,3,pI)∈_),a.2.1 _ (by simp:(d,3,pI)∈_),λe=>by have h:=a.2.2;simp[e] at h⟩
   refine eT ?_;go_wp
   refine iH ?_;have a:=eD (a.al pI 3);generalize u0.alloc (eN pI 3)=z at*;generalize u0.heap.size=d at*;refine fX ?_ ?_
   ·skip
    refine eT ?_;go_wp
    refine iH ?_;have a:=eD (a.al #[eW] 23);generalize z.alloc (eN #[eW] 23)=r at*;generalize z.heap.size=g at*;refine eT ?_;go_wp
    refine iH ?_;have a:=eD (a.al pI 3);generalize r.alloc (eN pI 3)=H at*;generalize r.heap.size=c at*;exact LF H g c d ⟨a.1,a.2.1 _ (by simp:(g,23,#[.slice none 0 0])∈_),a.2.1 _ (by simp:(c,3,pI)∈_),a.2.1 _ (by simp:(d,3,pI)∈_),λe=>by have h:=a.2.2;simp[e] at h⟩
   refine eT ?_;go_wp
   refine iH ?_;have a:=eD (a.al pI 3);generalize z.alloc (eN pI 3)=r at*;generalize z.heap.size=c at*;refine eT ?_;go_wp
   refine iH ?_;have a:=eD (a.al #[eW] 23);generalize r.alloc (eN #[eW] 23)=H at*;generalize r.heap.size=g at*;exact LF H g c d ⟨a.1,a.2.1 _ (by simp:(g,23,#[.slice none 0 0])∈_),a.2.1 _ (by simp:(c,3,pI)∈_),a.2.1 _ (by simp:(d,3,pI)∈_),λe=>by have h:=a.2.2;simp[e] at h⟩
  case l=>
   intro v g c d hh;have HH:=eD hh;clear hh a;refine fj ?_;repeat(go_big_quiet_step (fail))
   refine eO ?_;refine eT ?_;go_wp
   have a5:=eQ.new v 31 #[.pointer none,eW,fN g 1 1,eW,fN c 13 13,fN d 13 13];have a6:=eF.alloc v (eN #[.pointer none,eW,fN g 1 1,eW,fN c 13 13,fN d 13 13] 31);have aJ:=eD (And.intro (And.intro a5 HH.1.size) (And.intro a6 trivial));generalize v.alloc (eN #[.pointer none,eW,fN g 1 1,eW,fN c 13 13,fN d 13 13] 31)=v2 at*;clear a5 a6;refine iH ?_;refine fj ?_;repeat(go_big_quiet_step (fail))
   refine eO ?_;refine fP ?_;go_wp
   go_meet;obtain⟨⟨f1,f2⟩,f3,_⟩:=aJ.out;obtain⟨h1,⟨h2,h3⟩,⟨h4,h5⟩,⟨h6,h7⟩,h8⟩:=HH.out;exact⟨g,c,d,v.heap.size,rfl,⟨f3.eH h2,h3⟩,⟨f3.eH h4,h5⟩,⟨f3.eH h6,h7⟩,h8,⟨f1,f2⟩,h1.trans f3⟩
 case rest=>
 obtain⟨g,c,d,N,rfl,⟨hn,b3⟩,⟨a7,aK⟩,⟨a8,b4⟩,b5,⟨a9,ai⟩,s⟩:=hcut;generalize wc=w3 at*;have b6:=aI.size;have aL:=eD (aI.trans s);have a':=aL.size;go_wp2_with (refine ng rfl 73 63 2 _ rfl [iE 1 ⟨#[47,108,105,98]⟩ ⟨#[]⟩ none 0 0 0 0 0,iE 2 ⟨#[47,112]⟩ ⟨#[]⟩ none 0 0 0 0 0] 7 (by simp[go_sem,iE]) rfl underlying73 (by kernel_rfl) (by intro l I;simp only[fm,gp,gq] at I;rcases I with rfl|rfl<;>rfl) (by decide) ?_)
 have V:=eF.alloc w3 (eN (iE 1 ⟨#[47,108,105,98]⟩ ⟨#[]⟩ none 0 0 0 0 0++iE 2 ⟨#[47,112]⟩ ⟨#[]⟩ none 0 0 0 0 0).toArray 63);have bb:=eQ.new w3 63 (iE 1 ⟨#[47,108,105,98]⟩ ⟨#[]⟩ none 0 0 0 0 0++iE 2 ⟨#[47,112]⟩ ⟨#[]⟩ none 0 0 0 0 0).toArray;generalize w3.alloc (eN (iE 1 ⟨#[47,108,105,98]⟩ ⟨#[]⟩ none 0 0 0 0 0++iE 2 ⟨#[47,112]⟩ ⟨#[]⟩ none 0 0 0 0 0).toArray 63)=w4 at*;generalize w3.heap.size=ga at*;have HL:Hid (tX u f.length w4 [⟨none,0,[]⟩] [kP FA 1 PA 3] 0 (some (eJ gs 0)) 1 (some (eJ g 0)) 1 (some (eJ ga 0)) 2 (gs+1) N c d (.pointer none) (eW)):=eD ⟨aL.trans V,V.own (s.own a3),λW b8=>by rw[fF.1 b8];exact(ap.ext s).ext V,V.eH (s.eH a4),V.eH a9,by
  have:=hn.LK (n:=1) (size:=1) (B:=u.heap.size) (xs:=[eW]) rfl (by omega) (by omega);simpa[Ed.cell] using V.own this,by
  refine fo.ext (.of (λp hp=> ?_) ?_) V
  ·simp only[hU,jt,fm,gp,gq] at hp;rcases hp with rfl|rfl|rfl
   ·rw[nI];exact a7.LK (n:=13) (size:=1) (B:=u.heap.size) (by simp[lj,eM,ints]) (by omega) (by omega)
   ·rw[nI];exact a8.LK (n:=13) (size:=1) (B:=u.heap.size) (by simp[lj,eM,ints]) (by omega) (by omega)
   ·exact ji _ _ _ _
  ·simp[iG,Value.ownBlock,Ed.cell,b5],bb.LK (n:=2) (size:=7) (B:=u.heap.size) rfl (by decide) a',by omega,by omega,λk W hk=>by
  rcases k with _|k
  ·obtain rfl:kP FA 1 PA 3=W:=by simpa using hk
   exact .inl ⟨rfl,FA,PA,rfl⟩
  ·simp at hk,⟨_,rfl,rfl⟩,λk e hk=>by
  rcases k with _|k
  ·obtain rfl:Ed.mk none 0 []=e:=by simpa using hk
   exact⟨by simp,by simp⟩
  ·simp at hk⟩
 clear V bb a' hn a7 a8 a9 s aL aI a3 a4 ap b6 b3 aK b4 ai bZ;go_loopw [6,7] (λs6 i wr=>∃(k q:Nat) (E:List Ed) (j:List lM) (J NA AA:fE) (O nc ac:Nat),k<=f.length/\(q=k+1/\E.length=q/\j.length=q)/\i=eE (q:Nat)/\s6=.slice AA (k+2) ac/\tX u f.length wr E j k J O NA nc AA ac (gs+1) N c d (.pointer none) (eW)) (λ_ i _=>f.length+1- (intOf i).toNat)
 case atStart=>exact⟨0,1,[⟨none,0,[]⟩],[kP FA 1 PA 3],_,_,_,_,_,_,eX _,⟨rfl,rfl,rfl⟩,rfl,rfl,HL⟩
 case round=>
  clear HL;obtain⟨k,q,E,j,J,NA,AA,O,nc,ac,hk,heq,rfl,rfl,F⟩:=hrel;have HS:=eD F;have G:=eD heq;have b9:1<=q:=by omega
  have b':E.length<=13:=by omega
  have ah:j.length<=13/\1<=j.length:=by omega
  by_cases aj:k<f.length
  ·obtain⟨au,ca,rfl,K⟩:=F.ext.rd HR k (by simpa using aj);have bc:wr.cell? ⟨au,ca+k,none⟩=some f[k].cell:=by rw[K];simp
   have bd:=(bY f[k] (eU aj)).ext F.ext;have cz:((q:Nat):Int)- 1=(k:Int):=by omega
   have cA:((q:Nat):Int)<=((f.length:Nat):Int):=by omega
   clear K F heq;generalize f[k]=m at*;have be:=eD bd.rd;clear bd;go_wp
   generalize wr=wb at*;go_loopw [8,9] (λv i wr=>∃(b:Nat) (Q:fE) (R:Nat),b<=m.is.length/\b<=8/\i=eE b/\v=.slice Q (FW f.length q m.is b).length R/\OR wb wr 3 1 v (FW f.length q m.is b).length (ints (eM (FW f.length q m.is b)))) (λ_ i _=>8- (intOf i).toNat)
   case atStart=>exact⟨0,none,0,eX _,eX _,rfl,by simp[FW],by simpa[FW,ints,eM] using OR.nil (eF.refl _) _ _⟩
   case round=>
    obtain⟨b,Q,R,hj,bf,rfl,rfl,X⟩:=hrel;have T:=eD X;have av:=X.ext.cell bc;unfold Bk.cell at av;go_upto_region 9 with(fail)
    go_cut [41] (λcb wx=>cb=fz (decide (b<m.is.length/\b<8))/\wx=wr)
    case first=>
     by_cases aM:b<m.is.length
     ·have bg:((b:Nat):Int)<((m.is.length:Nat):Int):=by omega
      by_cases bh:b<8
      ·have cc:((b:Nat):Int)<8:=by omega
       go_wp
       go_meet;simp[aM,bh]
      ·have cc:¬((b:Nat):Int)<8:=by omega
       go_wp2;go_meet;simp[bh]
     ·have bg:¬((b:Nat):Int)<((m.is.length:Nat):Int):=by omega
      go_wp2;go_meet;simp[aM]
    case rest=>
    obtain⟨rfl,rfl⟩:=hcut;by_cases w:b<m.is.length/\b<8
    ·rw[jU w];obtain⟨cB,cC,bi,cd,aK⟩:=(X.ext.rd be).int (i:=b) w.1;rw[bi] at av;have HT:=eD (P1 (n:=f.length) (i:=q) (l:=m.is) w.1);have cD:=Ji (n:=f.length) (i:=q) (l:=m.is) (k:=b);have aM:((b:Nat):Int)<((m.is.length:Nat):Int):=by omega
     generalize FW f.length q m.is b=out at*;generalize m.is.getD b 0=aw at*;clear X bi cd;by_cases bj:aw>(q:Int)
     ·by_cases bk:aw<=(f.length:Int)
      ·obtain⟨o,rfl⟩:∃o:Nat,aw=(o:Int):=⟨aw.toNat,by omega⟩;have Y:Hid (FW f.length q m.is (b+1)=out++[o]):=eD (by rw[HT,fW ⟨bj,bk⟩];simp);have aN:=T.ext.size;clear HT;go_wp2_with (at_builtin;go_loud(refine jQ rfl _ _ rfl T.own aN rfl [eE (o:Nat)] rfl rfl (by simp[Value.oneCell']) (by omega) ?_))
       intro v7 w7 o7 g7 _;have h7:=T.LN o7 g7;obtain⟨A7,c7,rfl⟩:=h7.mb;have ce:Hid (OR wb w7 3 1 (.slice A7 (out++[o]).length c7) (out++[o]).length (ints (eM (out++[o])))):=eD (by rw[qh,fT];exact h7);have bl:Hid (out.length+1=(out++[o]).length):=eD (by simp);clear o7 g7 h7 T av aK;generalize out++[o]=cE at*;go_wp
       go_roundw
       case rel=>exact⟨b+1,A7,c7,by omega,by omega,by go_num,by rw[Y,bl],by rw[Y,bl];exact ce⟩
       case measure=>simp[intOf];omega
      ·have Y:Hid (FW f.length q m.is (b+1)=out):=eD (by rw[HT,fG (λh=>bk h.2)]);clear HT;go_wp
       go_roundw
       case rel=>exact⟨b+1,Q,R,by omega,by omega,by go_num,by rw[Y],by rw[Y];exact T⟩
       case measure=>simp[intOf];omega
     ·have Y:Hid (FW f.length q m.is (b+1)=out):=eD (by rw[HT,fG (λh=>bj h.1)]);clear HT;go_wp
      go_roundw
      case rel=>exact⟨b+1,Q,R,by omega,by omega,by go_num,by rw[Y],by rw[Y];exact T⟩
      case measure=>simp[intOf];omega
    ·rw[kD w];obtain⟨l,I⟩:∃l,l=FW f.length q m.is b:=⟨_,rfl⟩;have ax:Hid ((∀o∈l,q<o/\o<=f.length)/\l.length<=8):=eD ⟨by rw[I];exact T8,by rw[I];exact eY Ji bf⟩;rw[<-I] at X ⊢;have T:=eD X;have af:=eD (HS.to X.ext);have aN:=af.ext.size;have k2:=af.xb.ce 2 (.slice NA E.length nc);clear I X av bc be w bf hj;go_wp2_with (at_builtin;go_loud(refine AY rfl _ _ rfl af.nd aN rfl [.slice Q l.length R] rfl rfl (by simp[Value.oneCell']) (by omega) ?_))
     intro v7 w7 o7 g7 _;obtain⟨A7,c7,rfl⟩:=eR o7;have b7:=(CH.grown (L:=[23]) (M:=[]) (j1 g7) af.nd (by simp)).eH af.xb;have f7:=b7.frozen 2;have d7:=b7.ce 2 (.slice NA E.length nc);have ak:=eD (HS.h' T o7 (j1 g7) (λo hy=>by rw[G.2.1];exact ax.1 o hy) ax.2);clear o7 g7 b7 T HS af k2;go_wp
     clear f7 d7;generalize w7.setCell (eJ N 2) (.slice A7 (E.length+1) c7)=w8 at*;have bm:=ak.st;have e2:=bm.ew 0 (.slice J j.length O) rfl;clear bm;refine iW [0,1,2,3] [4,5] (.e [4] (.e [5] (.e [6] (.q [7] (.e [8] .done))))) ?_;repeat(go_big_quiet_step (fail))
     refine eO ?_;clear e2;have C:=eD (eF.drew w8);generalize World.drew w8=v0 at*;have bn:Hid (Rd v0 Q (ints (eM l))):=eD (C.rd (Rd.fC (cap:=R) (by have:=ak.ri.mem (p:=(.slice Q l.length R,eM l)) (by simp[Ed.cell]);rw[fv] at this;exact this)))
     refine eZ ?_;go_wp
     refine(LM q l Q R v0 (by omega) (λo hy=>by have:=ax.1 o hy;omega) ax.2 bn).mono ?_;rintro e w9 ⟨bo,bp,bq,A1,A2,IA,EA,rfl,aO,ag⟩;have C:=eD (C.trans ag);rw[<-G.2.2] at aO;have ay:=eD aO;obtain⟨U,S⟩:∃U,U=(qA q l bo bp bq 2 A1 3 A2 3 IA 1 EA 1).eL:=⟨_,rfl⟩;rw[<-S];have aP:U.length=9:=by rw[S];rfl
     have br:Hid (∀cf∈U,cf.oneCell'=true):=eD (by rw[S];exact QX _);rw[<-G.2.2] at S;have az:=eD S;clear aO ag S bn;go_wp2;refine⟨⟨⟨_,C⟩,rfl⟩, ?_⟩;refine eZ ?_;go_wp2_with (refine jF rfl 29 51 (.tmp 79) rfl U 9 rfl underlying29 (by kernel_rfl) aP (by decide) ?_)
     have ag:=eF.alloc w9 (eN U.toArray 51);have cg:=eD (eQ.new w9 51 U.toArray).rd;have C:=eD (C.trans ag);have ay:=eD (ay.ext ag);clear ag;generalize w9.heap.size=g9 at*;generalize w9.alloc (eN U.toArray 51)=cF at*;have al:=eD (ak.to C);have bs:=al.ext.size;refine⟨⟨⟨_,C⟩,rfl⟩, ?_⟩;refine eT ?_;go_wp2_with (at_builtin;go_loud(refine LU rfl _ _ rfl al.sp bs rfl _ _ U 1 rfl (by rw[aP]) cg br (by omega) ?_))
     intro cG ch aA aQ _;obtain⟨bt,bu,rfl⟩:=eR aA;have aR:=(CH.grown (L:=[51]) (M:=[]) aQ al.sp (by simp)).eH al.st;have f11:=aR.frozen 0;have d11:=aR.ce 0 (.slice J j.length O);have aS:=eD (ak.spec (e:=⟨Q,R,l⟩) C ay ah.2 (by rw[G.2.2,<-G.2.1,qq (fJ _)];simp) (by rw[az] at aA;exact aA) aQ);clear aA aQ aR ak al C ay az br aP bs;go_wp2;try refine iH ?_
     refine fj ?_;repeat(go_big_quiet_step (fail))
     refine eO ?_;refine eT ?_;go_wp
     try refine iH ?_
     refine fP ?_;clear f11 d11;generalize ch.setCell (eJ (gs+1) 0) (.slice bt (j.length+1) bu)=ci at*;go_wp
     refine(wv q (by omega) ci).mono ?_;rintro e cH ⟨rfl,bv⟩;have aT:=eD bv;clear bv;have aU:=eD (aS.to aT);have bw:=aU.ext.size;have aB:k<=12:=by omega
     go_wp2_with (at_builtin;go_loud(refine BW rfl _ _ rfl aU.ac bw rfl [eE 2,eV ((⟨#[47,108,105,98,47]⟩:jw)++fI (nB q)),eV ⟨#[]⟩,eW,eE 0,eE (q:Nat),eE 0] rfl rfl (by simp[Value.oneCell']) (by omega) ?_))
     intro cI cJ aC bx _;obtain⟨cj,ck,rfl⟩:=eR aC;have cl:=eD (aS.Wr aT (by
      have e:[Value.int .i64 2,.string ((⟨#[47,108,105,98,47]⟩:jw)++fI (nB q)),.string ⟨#[]⟩,.slice none 0 0,.int .i64 0,.int .i64 (q:Nat),.int .i64 0]=iE 2 (fI (jk (k+1))) ⟨#[]⟩ none 0 0 0 ((k+1:Nat):Int) 0:=by rw[<-G.out.1,P2 b9];rfl
      rw[e] at aC;exact aC) (j1 bx))
     clear aC bx aS aU aT bw;go_wp
     go_roundw
     case rel=>exact⟨k+1,q+1,E++[⟨Q,R,l⟩],j++[qA j.length l bo bp bq 2 A1 3 A2 3 IA 1 EA 1],bt,A7,cj,bu,c7,ck,by omega,⟨by have:=G.1;omega,by simp[G.2.1],by simp[G.2.2]⟩,by go_num,rfl,cl.out⟩
     case measure=>simp[intOf];omega
  ·have hq:¬((q:Nat):Int)<=((f.length:Nat):Int):=by omega
   have cm:=F.st.ce 0 (.slice J j.length O);have f1:=F.xb.frozen 1;have d1:=F.xb.ce 1 (eW);have t:=eD (F.PI (.slice J j.length O));have am:=eD (t.st.fK (P:=prog) 57 _ underlying57 rfl (by kernel_rfl));clear F heq;go_wp2_with (refine eK rfl 57 (.tmp 4) rfl _ rfl (fV #[.slice J j.length O,eW,eW,fz false]) am ?_)
   clear cm f1 d1 am;generalize wr.setCell (eJ N 1) (.slice J j.length O)=aD at*;refine(Fy J j.length O aD).mono ?_;rintro e bz ⟨wp,pp,mt,lp,bA,p,an,rfl,bB,bC,bD,bE,bF,bG,w,ao,bH,Z⟩;have bI:Hid (zw bz aD pp lp mt bA p J j (wu E none 0 [] c d (λ_=>0) (λ_=>0)) an):=eD (by obtain⟨i1,i2,i3,i4,i5,i6,i7,i8,i9,cn⟩:=w;have aE:=Z.own t.sp;exact⟨⟨bC,bD⟩,bE,bF,t.ex Z bG,⟨i1,i2,i3,i4,i5,i6,cn⟩,⟨ao.2.2.2.1,ao.2.2.2.2,ao.2.2.1⟩,bH,by rw[i7];exact At.put (D:=DataW.map []) ⟨_,rfl⟩ (show WideAt.IsKeyLit (.string [47]) from trivial) _,by rw[i7];exact⟨_,rfl⟩,mT.fC aE (Rd.gY aE),λW s=>(t.Hh W s).ext Z⟩)
   have bJ:Hid (an.D=zJ/\an.fn=1/\an.fl=0):=eD ⟨w.2.2.2.2.2.2.1,w.2.2.2.2.2.2.2.1,w.2.2.2.2.2.2.2.2.1⟩;have bK:=ao.1;have bL:=eD bB;have aF:=eD Z;have f0:=(Z.eH t.xb).frozen 0;have d0:=(Z.eH t.xb).ce 0 (.pointer none);have ad:=eD ((t.to Z).Vf (fw wp));have k0:=ad.xb.ce 0 (fw wp);have bM:=ad.ext.size;clear bB bC bD bE bF bG w ao bH Z;go_upto_region 19 with(fail)
   have aG:=eD (CH.set (L:=[31]) (M:=[]) (aF.eH t.xb) t.lx (by simp) 0 (fw wp));clear f0 d0;generalize bN:bz.setCell (eJ N 0) (fw wp)=cK at*;have cp:=eD bN;clear bN;go_wp2_with (at_builtin;go_loud(refine BW rfl _ _ rfl ad.ac bM rfl [eE 8,eV ⟨#[47,112]⟩,eV ⟨#[]⟩,eW,eE 0,eE 0,eE 0] rfl rfl (by simp[Value.oneCell']) (by omega) ?_))
   intro cL aV aW bO _;obtain⟨bP,bQ,rfl⟩:=eR aW;have ae:=eD (CH.grown (B:=u.heap.size) (L:=[63]) (M:=[]) (j1 bO) ad.ac (by simp));have k0:=(ae.eH ad.xb).ce 0 (fw wp);have bR:Hid (aV.ownsRow 0 63 7 (.slice bP (C5 k).length bQ) (C5 k).length (fO Av.l (C5 k))):=eD (by rw[xD,R2,hZ];exact fq aW (eX _))
   have bS:k=f.length:=by omega
   have HK:=eD bS;have HE:Hid (E.length=k+1/\j.length=k+1):=eD ⟨by have:=G.out;omega,by have:=G.out;omega⟩;have aB:1<=k/\k<=12:=by omega
   clear bS aW bO;have hP:=Fu (C5 k) bP bQ wp aV (by rw[xD];omega) bR (λb ts w'=>Uf aD wp pp lp mt bA p O J j (wu E none 0 [] c d (λ_=>0) (λ_=>0)) (mQ E) k b ts w'/\Lw aD aV w')
    ⟨⟨rfl,by simp,.inl ⟨eX _,an,ae.out.eH (aG.out.eH bL.out),(bI.out.ch aG.out).ch ae.out,.inl ⟨rfl,bJ.out⟩⟩⟩,Lw.fg (eF.refl _)⟩
    (λb l x cq h K=>⟨Va b l h.1 K,h.2.trans (K.lw (eY (eY aF.out.size aG.out.size) ae.out.size))⟩)
    (λb hj l x h=>(Vb bK (n:=k) (λi o hy=>by have cM:=(t.C7 (by rw[HE.1,HK]) (by omega)).1.up i o hy;have:=HE.1;omega) aB.2 (t.out.C7 (by rw[HE.out.1,HK.out]) (by omega)).2.1 (t.out.C7 (by rw[HE.out.1,HK.out]) (by omega)).2.2 HE.out.2 (t.out.Vg (by rw[HE.out.2,HK.out]) (by omega)).1 b hj l x h.1).mono λe cq ⟨cr,e1,e2,e3,e4⟩=>⟨cr,e1,⟨e2,h.2.trans e4⟩,e3⟩)
   rw[xD] at hP;have HP:=eD hP;clear hP;go_wp
   refine HP.mono ?_;rintro e bT ⟨TA,tc,ts,rfl,S,aX,hI,aY⟩;have cs:=eD hI.2.1;obtain⟨n3,bU⟩:∃n3,n3=k+3:=⟨_,rfl⟩;rw[<-bU] at S aX ⊢;have cN:n3<=20:=by omega
   have az:=eD S;have ct:=eD aX;have aJ:Hid (∀wr,eF bT wr->C6 u f.length (fH (ij #[fw N,fz true])) wr):=eD (λwr s=>by have F:=t.out;rw[<-HK] at F ⊢;have K:=ae.out;rw[<-cp] at K;obtain⟨W,cu,e1,e2,e3,e4,e5⟩:=F.VO HE.1 HE.2 aB.1 aB.2 aF K aY bK hI;exact⟨W,cu,by rw[e1],e2,e3,Nat.le_of_eq e4.symm,e5.ext s,(aY.ext (fi.ext ae ad.ext λi hi=>hi.1) t.ext.size).trans s⟩)
   clear hI aY S aX bU HP t ad aG ae bI bL bJ bR k0 bM aF G hk hq aj b' ah;go_wp2;go_loopw [118] (λi wr=>∃b:Nat,b<=n3/\i=eE b/\eF bT wr) (λi _=>n3- (intOf i).toNat)
   case atStart=>exact⟨0,eX _,rfl,eF.refl _⟩
   case round=>
    obtain⟨b,hj,rfl,s⟩:=hrel;by_cases aj:b<n3
    ·have bg:((b:Nat):Int)<((n3:Nat):Int):=by omega
     have aZ:b<ts.length:=by rw[az];exact aj
     obtain⟨au,aE,rfl,cv,K⟩:=ut (λW:Tv=>W.len) (Rd.gY (s.own ct)) aZ (by decide);have bV:=cs ts[b] (eU aZ);generalize ts[b]=tv at*;obtain⟨l,I,cw⟩:=tv;have bW:(loadVar 71 (eJ au (aE+b*13))).run prog wr=.ok (fV l.toArray) wr:=by refine jo wr au _ 71 l _ (λi hi=> ?_) underlying71 rfl (by rw[I];kernel_rfl);rw[qX];exact K i _ (gg hi)
     have bX:=eQ.new wr 71 #[eE 0,eE 0,eW,eW,eE 0,eE 0,eE 0,eE 0,eE 0,eV ByteArray.empty,eE 0,eV ByteArray.empty,eE 0];have am:=eD bW;have C:=eD s;have cx:=eD bV;clear K bW s bV aZ cv;go_wp2_with (first|(refine eK rfl 71 (.tmp 120) rfl _ rfl (fV l.toArray) am ?_)|(refine eG rfl 71 (.tmp 12) (.tmp 121) rfl wr rfl l rfl bX cw (by rw[I];kernel_rfl) (by rw[I];rfl) ?_))
     intro cO b1 g1;have aq:=eD (C.trans ((fi.grown g1).ext (eF.alloc _ _)));have k1:=b1.cell 0 (v:=eE 0) (by simpa using cx.out);clear bX b1 g1 C am;go_wp
     go_roundw
     case rel=>exact⟨b+1,by omega,by go_num,aq⟩
     case measure=>simp[intOf];omega
    ·obtain rfl:b=n3:=by omega
     have HF:=eD (aJ wr s);clear s;go_wp
     go_ret2
     exact HF
end
section
open Go.RowKit
theorem C8:xE:=λm n a b c ⟨d,f,g,i,j⟩ ⟨k,l⟩=>by subst g;subst k;exact R1 FX d f a b c i j l
theorem holds_TopOnce:Rows.TopOnceCardSaid:=PZ C8
