/- TopOnce: part 19 of the proof. -/
import Derived.Test.YtoaehdgokeicoaaGreatDoorZ16
set_option maxRecDepth 100000
set_option maxHeartbeats 30000000
set_option linter.all false
namespace Go.Proofs.YtoaehdgokeicoaaGreatDoor
open K9 Z9 Go.Proofs.Tryz
section
open Go.RowKit Go.Maps
section
section
variable {w:eI} {G:Nat->fe} {N B p:Nat} {s:LS} {ex:List (eS×fS)} {stk:fS}
def Pn(w:eI)(G:Nat->fe)(N B p:Nat)(s:LS)(ex:List (eS×fS))(stk:fS)(i:Nat)(id:Nat)(e:Ending)(w':eI):Prop:=
 e=fH (eE 0)/\∃rs rv,gG w' G N B p (s.u3 i rs rv id) ex stk/\CH B jz [] w w'
theorem Po(h:gG w G N B p s ex stk){i:Nat}(C:i<s.os.length):Calls prog 122 #[fw p,eE (s.os[i].id:Nat)] w (Pn w G N B p s ex stk i s.os[i].id):=by
 have gO:(s.os.map OV.id).Nodup:=by rw[<-jD];exact h.ids
 have bw:s.os.length<=13:=by have:=h.iO;have:=h.n12;omega
 obtain⟨m,P,bx,bA,bB⟩:=h.mem.at C;have an:oZ s.os s.os[i].id=i:=mv C rfl (λj hj e=>by have:=fZ gO (i:=j) (j:=i) (by simp;omega) (by simpa using C) (by simpa using e);omega)
 have ao:=eD (λo (Q:eF w o)=>kv (h.mem.ext Q) (by omega) s.os[i].id);rw[an] at ao;obtain⟨R,c,aO,bC,_⟩:=h.rg.each _ (eU C);obtain⟨x,I,rfl⟩:=gN c;obtain⟨BA,bi,aP⟩:=(h.each _ (eU C)).im.Td;have aQ:=eD (λo (Q:eF w o)=>Gj B s.sp s.rs s.rv s.os[i].base x s.os[i].im BA bi _ o (h.mem.vH.ext Q) (aP.ext Q) I aO (λj hj e=>by have h2:=jJ.1 h.rg.wf.pw j x (by omega) I hj;have h4:=h.rg.wf.ok _ (eU (show j<s.rs.length by omega));unfold Rg.ka at h2;omega) (eY h.mem.size Q.size))
 obtain⟨b0,bD,ap,bE,aR,bj⟩:=jW h.mem.Kq C;rw[P] at ap;simp only[fd,ny,gP] at ap;obtain⟨rfl,rfl⟩:=ap;have aS:=eD aR;have y:=eD h;have Y:=eD h.mem.eH;have HI:=eD C;have HG:=eD P;clear h aR bj aP an gO;generalize aT:s.os[i].id=id at*;have bk:=eD aT;clear aT;go_in;go_wp
 have aU:=eF.alloc w (eN #[eE (id:Nat)] 3);have aV:=eQ.new w 3 #[eE (id:Nat)];have r:=eD aV;have aq:=eD aU;clear aU aV;generalize w.alloc (eN #[eE (id:Nat)] 3)=w1 at*;refine(ao w1 aq).mono ?_;rintro e Z ⟨rfl,ar⟩;have ad:=eD (aq.trans ar);have n:=(ad.eH Y).ce 6 (.slice s.oA s.os.length s.oc);rw[P] at n;have aW:=eD (ar.eH r);have bz:=eQ.new Z 177 KM;clear ar ao aq r;go_wp2_with (first|(refine eK rfl 177 (.tmp 20) rfl _ rfl (xd s.os[i]) ?_ ?_)|(refine eG rfl 177 (.tmp 6) (.tmp 21) rfl Z rfl s.os[i].eL rfl bz (j4 _) (by rw[gx];exact iR) (by rw[gx];rfl) ?_))
 ·have:=aS Z ad;rwa [lH] at this
 intro J b3 g3;have au:=(fi.grown g3).ext (eF.alloc _ _);have ae:=eD (ad.trans au);have aX:=eD (au.eH aW);have aY:=eD b3;have e0:=(ae.eH Y).ew 0 (fw s.sp) rfl;have bl:=b3.ew 18 (eE s.os[i].base) rfl;have aZ:Hid (∀o,(∃av:EW J,o=av.w)->(loadVar 174 (eJ Z 3)).run prog o=.ok (fV s.os[i].im.eL.toArray) o):=eD (λo ⟨av,hu⟩=>by subst hu;exact(av.ext.eH b3).load 174 3 _ rfl _ underlying174 rfl (by rw[vM];exact qB))
 clear g3 bz b3 au aW aS ad;go_wp
 refine mY [0,1,2,3,4,5,6,7] [8] ?_;iterate 7 (go_big_quiet_step (fail))
 refine fR rfl 174 (.tmp 28) rfl _ _ rfl aZ (by simp[Act.put];rfl) ?_;refine eO ?_;clear e0 bl aZ;go_wp
 refine(aQ _ (ae.trans (eF.drew J))).mono ?_;rintro e w4 ⟨rfl,aw,a0,S⟩;have a1:CH B jr [] w w4:=(CH.fg (ae.trans (eF.drew J))).fk S;have af:=(y.mem.ext (ae.trans (eF.drew J))).Vu a0 S;have a2:=eD a1;have a3:=eD af;have bm:=eD (S.eH ((eF.drew J).eH aX));have a4:=S.eH ((eF.drew J).eH aY);have d19:=a4.ce 19 (eE 0);have n:=af.eH.ce 6 (.slice s.oA s.os.length s.oc);rw[P] at n;obtain⟨d,hn⟩:∃d,s.os.length=d+1:=⟨s.os.length- 1,by omega⟩;have a5:=eD (Lm B m d s.oc i (la s.os) w4 (by have:=af.row;simp only[P,hn] at this;exact this) (Ay j4 _) (by omega) (by omega));have HN:=eD hn;rw[hn] at n;clear S a0 af a1 a4 aQ aX aY;go_wp21
 refine a5.mono ?_;rintro e w5 ⟨rfl,o5,g5⟩;obtain⟨ax,a6,ay⟩:=RK a3 HI HG HN o5 g5;obtain⟨a,ht⟩:∃a,a=(s.rX (s.rs.take x++s.rs.drop (x+1)) aw).jg (s.os.eraseIdx i):=⟨_,rfl⟩;rw[<-ht] at ax;have z:=eD ht;have az:=eD ax;have aA:=eD (a2.mono jr.sub (λ_ h=>h) |>.fk a6);have a7:=eD (bm.grown g5 (by simp only[nY,fd];omega));have k6:=ay.ce 6 (.slice s.oA s.os.length s.oc);have f6:=ay.frozen 6;clear o5 g5 ax a6 ay a5 a3 a2 ht;go_wp2;clear k6 f6;have a8:=(eQ.ub (p:=(eJ p 6)) a7 (by have:=Y.lt;simp only;omega) (fN m d s.oc):eQ (w5.setCell (eJ p 6) (fN m d s.oc)) w 3 #[eE (id:Nat)]);have r:=eD a8;clear a8 a7;generalize w5.setCell (eJ p 6) (fN m d s.oc)=w6 at*;go_cut [7] (λs7 wx=>s7=.func (.func 198) #[] #[fw w]/\it wx B p {a with scope:=a.scope.filter (· != id),gF:=a.gF.filter (· != id)} ex/\CH B jz [] w wx/\eQ wx w 3 #[eE (id:Nat)])
 case first=>as_aux_lemma=>
  refine jA [] [] (.q [0,1,2,3,4,6,8,9,10,12] (.jG (.e [5] (.jG (.e [7] (.e [11] (.e [13] (.q [14,15] (.e [16] (.q [17,18] (.e [19] .done))))))) (.e [11] (.e [7] (.e [13] (.q [14,15] (.e [16] (.q [17,18] (.e [19] .done))))))))) (.e [11] (.e [5] (.e [7] (.e [13] (.q [14,15] (.e [16] (.q [17,18] (.e [19] .done)))))))))) (λ_=>True) (by kernel_rfl) (by kernel_rfl) rfl trivial ?_;refine eO ?_;have HM:=eD (az.ext (eF.drew w6));have HC:=eD (aA.fk (CH.fg (eF.drew w6)));have a9:=eD ((eF.drew w6).eH r);have D:Hid (∀k∈iG s.rows,k<w.heap.size):=eD (λk t=>(y.mem.ints.lt (by rw[jC];exact iL _ t)).2);have bn:=eD (And.intro y.u1 y.Nf);clear az aA r;generalize World.drew w6=v0 at*;have aB:=eD (RM (id:=id) HM a9 (λk t=>D k (by
   obtain⟨R,c,e⟩:=fu.1 t;refine fu.2 ⟨R, ?_,e⟩;rw[z] at c;simp only[LS.rows,LS.jg,LS.re,LS.rX,fm,rA] at c ⊢;rcases c with rfl|rfl|⟨l,f,c⟩
   ·exact .inl rfl
   ·exact .inr (.inl rfl)
   ·exact .inr (.inr ⟨l,Fp f,c⟩))) (by rw[z.out];have:=bn.out;exact⟨by simp only;omega,by simp only;omega⟩))
  have a':Hid (∀k,(Value.slice a.sA a.scope.length a.sc).ownBlock=some k\/(Value.slice a.lA a.gF.length a.lc).ownBlock=some k->k<w.heap.size):=eD (λk t=>D k (by
   rw[z] at t;rcases t with e|e
   ·exact fu.2 ⟨s.mz,by simp[LS.rows],e⟩
   ·exact fu.2 ⟨s.nD,by simp[LS.rows],e⟩))
  have g:=eD HM.eH;have T:=eD True.intro;repeat' first
   |refine fX ?_ ?_
   |(refine fj ?_
     repeat(go_big_quiet_step (fail))
     refine eO ?_)
   |(refine eZ (k:=5) ?_
     have k7:=g.ce 7 (.slice a.sA a.scope.length a.sc);go_wp2;clear k7;try refine⟨trivial, ?_⟩)
   |(refine eZ (k:=11) ?_
     have aC:=g.ce 10 (.slice a.lA a.gF.length a.lc);go_wp
     clear aC;try refine⟨trivial, ?_⟩)
   |(refine eZ (k:=7) ?_
     go_wp
     refine aB.1.mono ?_;rintro e v1 ⟨rfl,o7,g7⟩;have T:=eD (And.intro o7 g7);have g:=eD (aB.2 _ g7).1;clear o7 g7;go_wp2;try refine⟨trivial, ?_⟩)
  all_goals
   refine eZ (k:=13) ?_;go_wp
   refine(aB.2 _ T.2).2.mono ?_;rintro e v2 ⟨rfl,bb,aD⟩;obtain⟨K,U,V⟩:=RL HM T.1 T.2 bb aD;have bc:=eD (And.intro K (HC.fk U));have L:=eD V;have bo:=eD ((a9.grown T.2 (λe=>tr _ (a' _ (.inl e.symm)))).grown aD (λe=>tr _ (a' _ (.inr e.symm))));clear bb aD K U V;go_wp2;try refine⟨trivial, ?_⟩
   refine fj ?_;repeat(go_big_quiet_step (fail))
   refine eO ?_;refine eZ (k:=16) ?_;have k7:=L.ce 7 (.slice a.sA a.scope.length a.sc);have f7:=L.frozen 7;go_wp
   try refine⟨trivial, ?_⟩
   clear k7 f7;refine fj ?_;repeat(go_big_quiet_step (fail))
   refine eO ?_;refine eZ (k:=19) ?_;have aE:=eQ.set L 7 (.slice a.sA (a.scope.filter (· != id)).length a.sc);have aC:=aE.cell 10 (v:=.slice a.lA a.gF.length a.lc) (by simp[LS.cells]);have f10:=aE.frozen 10;go_wp
   try refine⟨trivial, ?_⟩
   clear aC f10 aE;refine fP ?_;go_wp
   go_meet;have an:=Y.lt;exact⟨rfl,bc.1,bc.2,(bo.ub (p:=(eJ p 7)) (by simp only;omega) _).ub (p:=(eJ p 10)) (by simp only;omega) _⟩
 case rest=>as_aux_lemma=>
  obtain⟨rfl,K,U,V⟩:=hcut;clear az aA r;obtain⟨w7,rfl⟩:∃w7,w7=wc:=⟨wc,rfl⟩;have bp:a.os.length=d:=by rw[z.out];show(s.os.eraseIdx i).length=d;rw[Pm,fW HI.out];have:=HN.out;omega
  have aF:a.oA=some ⟨m,0,none⟩:=by rw[z.out];exact HG
  have bF:d<=13:=by have:=HN;omega
  have D:Hid (∀k∈iG a.rows,k<w.heap.size):=eD (λk t=>(y.mem.ints.lt (by
   rw[jC];refine iL _ ?_;obtain⟨R,c,e⟩:=fu.1 t;refine fu.2 ⟨R, ?_,e⟩;rw[z] at c;simp only[LS.rows,LS.jg,LS.re,fm,rA] at c ⊢;rcases c with rfl|rfl|⟨l,f,c⟩
   ·exact .inl rfl
   ·exact .inr (.inl rfl)
   ·exact .inr (.inr ⟨l,Fp f,c⟩))).2)
  have ag:Hid (∀l∈a.os,l.group.length<=1000/\l.eP.length<=1000):=eD (λl f=>by rw[z] at f;have:=y.each l (Fp f);have:=this.iO;have:=(y.each l (Fp f)).ms;exact⟨by omega,by omega⟩)
  have n:=K.eH.ce 6 (.slice a.oA a.os.length a.oc);rw[aF,bp] at n;have bd:=eD K;have be:=eD U;have L:=eD V;clear K U V;go_wp
  clear n;go_loopw [80] (λiv wr=>∃k:Nat,k<=d/\iv=eE k/\it wr B p {a with os:=(a.os.take k).map (OV.wo id)++a.os.drop k,scope:=a.scope.filter (· != id),gF:=a.gF.filter (· != id)} ex/\CH B jz [] w wr/\eQ wr w 3 #[eE (id:Nat)]) (λiv _=>d- (intOf iv).toNat)
  case atStart=>exact⟨0,eX _,rfl,bd,be,L⟩
  case round=>
   obtain⟨k,t,rfl,M,ah,bf⟩:=hrel;clear bd be L;by_cases bG:k<d
   ·have aG:k<a.os.length:=by omega
    obtain⟨b,E⟩:∃b,b={a with os:=(a.os.take k).map (OV.wo id)++a.os.drop k,scope:=a.scope.filter (· != id),gF:=a.gF.filter (· != id)}:=⟨_,rfl⟩;rw[<-E] at M;have bq:b.os.length=d:=by rw[E];simp;omega
    have ai:b.oA=some ⟨m,0,none⟩:=by rw[E];exact aF
    have A:k<b.os.length:=by omega
    have aH:b.os[k]=a.os[k]:=by subst E;exact UZ a.os id aG _
    have aj:=M.ext (eF.drew wr);have aI:=(eF.drew wr).eH bf;have F:=TR aj A aI (λq hq=>by
     obtain⟨R,c,e⟩:=fu.1 hq;rw[E] at c;simp only[LS.rows,fm,rA] at c;rcases c with rfl|rfl|⟨l,f,c⟩
     ·exact D q (fu.2 ⟨a.mz,by simp[LS.rows],(CW _ _ _ _).trans e⟩)
     ·exact D q (fu.2 ⟨a.nD,by simp[LS.rows],(CW _ _ _ _).trans e⟩)
     ·have I:∀u∈a.os,(u.nf.1.ownBlock=some q\/u.m6.1.ownBlock=some q)->q<w.heap.size:=λu ak W=>by
       rcases W with W|W
       ·exact D q (fu.2 ⟨u.nf,by simp only[LS.rows,fm,rA];exact .inr (.inr ⟨u,ak,by simp[OV.rows]⟩),W⟩)
       ·exact D q (fu.2 ⟨u.m6,by simp only[LS.rows,fm,rA];exact .inr (.inr ⟨u,ak,by simp[OV.rows]⟩),W⟩)
      simp only[OV.rows,fm,gp,gq] at c;rcases gu.1 f with f|f
      ·obtain⟨u,ak,rfl⟩:=fy.1 f;refine I u (qT ak) ?_;rcases c with rfl|rfl
       ·exact .inl ((CW _ _ _ _).trans e)
       ·exact .inr ((CW _ _ _ _).trans e)
      ·refine I l (qV f) ?_;rcases c with rfl|rfl
       ·exact .inl e
       ·exact .inr e) (by rw[aH];exact ag.out _ (eU aG))
    have br:Hid (∀wz,it wz B p (b.jg (b.os.set k (b.os[k].wo id))) ex->it wz B p {a with os:=(a.os.take (k+1)).map (OV.wo id)++a.os.drop (k+1),scope:=a.scope.filter (· != id),gF:=a.gF.filter (· != id)} ex):=eD (λwz hz=>by have e:=RO a.os id aG;rw[aH] at hz;rw[<-e];subst E;exact hz)
    have aJ:=aj.row;have n:=M.eH.ce 6 (.slice b.oA b.os.length b.oc);rw[ai,bq] at n;simp only[ai] at F aJ;have bg:=eD aj;have bs:=eD (ah.fk (CH.fg (eF.drew wr)));have O:=eD F;have g:=eD aJ;have bt:=eD ai;have r:=eD aI;clear M ah bf aj aI F aJ aH E aF ai;go_wp
    clear n;refine jA [] [] (.q [0,1,2,3,4,5,7,9,10,11,13,15,16,17,19] (.jG (.e [6] (.jG (.e [8] (.jG (.e [12] (.jG (.e [14] (.e [18] (.e [20] (.q [21,22] (.e [23] (.q [24,25] (.e [26] (.q [27,28] (.e [29] .done))))))))) (.e [18] (.e [14] (.e [20] (.q [21,22] (.e [23] (.q [24,25] (.e [26] (.q [27,28] (.e [29] .done))))))))))) (.e [18] (.e [12] (.e [14] (.e [20] (.q [21,22] (.e [23] (.q [24,25] (.e [26] (.q [27,28] (.e [29] .done)))))))))))) (.jG (.e [12] (.jG (.e [8] (.jG (.e [14] (.e [18] (.e [20] (.q [21,22] (.e [23] (.q [24,25] (.e [26] (.q [27,28] (.e [29] .done))))))))) (.e [18] (.e [14] (.e [20] (.q [21,22] (.e [23] (.q [24,25] (.e [26] (.q [27,28] (.e [29] .done))))))))))) (.e [18] (.e [8] (.e [14] (.e [20] (.q [21,22] (.e [23] (.q [24,25] (.e [26] (.q [27,28] (.e [29] .done)))))))))))) (.e [18] (.jG (.e [8] (.e [12] (.e [14] (.e [20] (.q [21,22] (.e [23] (.q [24,25] (.e [26] (.q [27,28] (.e [29] .done)))))))))) (.e [12] (.e [8] (.e [14] (.e [20] (.q [21,22] (.e [23] (.q [24,25] (.e [26] (.q [27,28] (.e [29] .done))))))))))))))) (.jG (.e [12] (.jG (.e [6] (.jG (.e [8] (.jG (.e [14] (.e [18] (.e [20] (.q [21,22] (.e [23] (.q [24,25] (.e [26] (.q [27,28] (.e [29] .done))))))))) (.e [18] (.e [14] (.e [20] (.q [21,22] (.e [23] (.q [24,25] (.e [26] (.q [27,28] (.e [29] .done))))))))))) (.e [18] (.e [8] (.e [14] (.e [20] (.q [21,22] (.e [23] (.q [24,25] (.e [26] (.q [27,28] (.e [29] .done)))))))))))) (.e [18] (.e [6] (.e [8] (.e [14] (.e [20] (.q [21,22] (.e [23] (.q [24,25] (.e [26] (.q [27,28] (.e [29] .done))))))))))))) (.e [18] (.jG (.e [6] (.jG (.e [8] (.e [12] (.e [14] (.e [20] (.q [21,22] (.e [23] (.q [24,25] (.e [26] (.q [27,28] (.e [29] .done)))))))))) (.e [12] (.e [8] (.e [14] (.e [20] (.q [21,22] (.e [23] (.q [24,25] (.e [26] (.q [27,28] (.e [29] .done)))))))))))) (.e [12] (.e [6] (.e [8] (.e [14] (.e [20] (.q [21,22] (.e [23] (.q [24,25] (.e [26] (.q [27,28] (.e [29] .done)))))))))))))))) (λ_=>True) (by kernel_rfl) (by kernel_rfl) rfl trivial ?_;refine eO ?_;generalize World.drew wr=v0 at*;have bu:Hid (w.heap.size≠m):=eD (by omega);have H:=eD True.intro;have al:=eD True.intro;repeat' first
     |refine fX ?_ ?_
     |(refine fj ?_
       repeat(go_big_quiet_step (fail))
       refine eO ?_)
     |(refine eZ (k:=6) ?_
       have X:=(qg g A (j:=24) (v:=.slice b.os[k].gA b.os[k].group.length b.os[k].gc) (by omega) rfl).1;go_wp
       clear X;try refine⟨trivial, ?_⟩)
     |(refine eZ (k:=12) ?_
       have X:=(qg g A (j:=22) (v:=.slice b.os[k].nA b.os[k].eP.length b.os[k].nc) (by omega) rfl).1;go_wp
       clear X;try refine⟨trivial, ?_⟩)
     |(refine eZ (k:=18) ?_
       have X:=(qg g A (j:=23) (v:=eW) (by omega) rfl).1;go_wp
       clear X;try refine⟨trivial, ?_⟩)
     |(refine eZ (k:=8) ?_
       go_wp
       refine O.1.mono ?_;rintro e v1 ⟨rfl,o8,g8⟩;have H:=eD (And.intro o8 g8);have g:=eD (O.2 _ g8).1;clear o8 g8;go_wp2;try refine⟨trivial, ?_⟩)
     |(refine eZ (k:=14) ?_
       go_wp
       refine(O.2 _ H.2).2.1.mono ?_;rintro e v2 ⟨rfl,bh,am⟩;have al:=eD (And.intro bh am);have g:=eD ((O.2 _ H.2).2.2 _ am).1;have r:=eD ((O.2 _ H.2).2.2 _ am).2;clear bh am;go_wp2;try refine⟨trivial, ?_⟩)
    all_goals
     refine eZ (k:=20) ?_;go_wp
     refine(Fl _ _ _).mono ?_;rintro e v3 ⟨rfl,rfl⟩;go_wp2;try refine⟨trivial, ?_⟩
     have F:=TQ bg A bt H.1 H.2 al.1 al.2;have ag:=eD (And.intro (br.out _ F.1) (bs.fk F.2));have aK:=qg g A (j:=24) (v:=.slice b.os[k].gA b.os[k].group.length b.os[k].gc) (by omega) rfl;have aL:=qg g A (j:=22) (v:=.slice b.os[k].nA b.os[k].eP.length b.os[k].nc) (by omega) rfl;have aM:=qg g A (j:=23) (v:=eW) (by omega) rfl;obtain⟨aK,f24⟩:=aK;obtain⟨aL,f22⟩:=aL;obtain⟨aM,f23⟩:=aM;clear F O bg H al;refine fj ?_;repeat(go_big_quiet_step (fail))
     refine eO ?_;refine eZ (k:=23) ?_;go_wp2;try refine⟨trivial, ?_⟩
     refine fj ?_;repeat(go_big_quiet_step (fail))
     refine eO ?_;refine eZ (k:=26) ?_;go_wp
     try refine⟨trivial, ?_⟩
     refine fj ?_;repeat(go_big_quiet_step (fail))
     refine eO ?_;refine eZ (k:=29) ?_;go_wp
     try refine⟨trivial, ?_⟩
     clear aK f24 aL f22 aM f23;refine fP ?_;go_wp
     go_roundw
     case rel=>have aN:=bu.out;exact⟨k+1,by omega,by go_num,ag.1,ag.2,((r.ub (p:=(eJ m (k*27+24))) aN _).ub (p:=(eJ m (k*27+22))) aN _).ub (p:=(eJ m (k*27+23))) aN _⟩
     case measure=>simp[intOf];omega
   ·obtain rfl:k=d:=by omega
    go_wp
    go_ret;refine⟨rfl,s.rs.take x++s.rs.drop (x+1),aw, ?_,ah⟩;have bv:{a with os:=(a.os.take k).map (OV.wo id)++a.os.drop k,scope:=a.scope.filter (· != id),gF:=a.gF.filter (· != id)}=s.u3 i (s.rs.take x++s.rs.drop (x+1)) aw id:=by rw[mZ (by omega),tC (by omega),ox];rw[z]
    rw[bv] at M;have gO:=bk.out;subst gO;exact y.RJ HI I aO M ah
end
end
