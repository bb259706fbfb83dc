/- TopOnce: part 14 of the proof. -/
import Derived.Test.YtoaehdgokeicoaaGreatDoorZ11
import Derived.Test.YtoaehdgokeicoaaGreatDoorZ12
set_option maxRecDepth 100000
set_option maxHeartbeats 30000000
set_option linter.all false
namespace Go.Proofs.YtoaehdgokeicoaaGreatDoor
open K9 Z9 Go.Proofs.Tryz
section
variable{w v u W V:eI}{n k m i j p b c d g:Nat}{A C H I:fE}{l:fY}{r:fe}{f:ik}{a:Act}{kJ:kx}{kR:gh}
section
open Go.RowKit Pl
section
def tT:mB:=[542,524,174]
structure DC(w0:eI)(hi lp q g:Nat)(wS:eI):Prop where
 h0:w0.heap.size<=hi
 Wj:lp<wS.heap.size
 hg:g<wS.heap.size
 V9:hi<=g
 L3:hi<=wS.heap.size
structure DD(w0:eI)(hi lp q g:Nat)(wS w:eI)(R:gh)(eL:kx):Prop where
 c:DC w0 hi lp q g wS
 ld:LD w0 hi w lp q R
 im:eQ w g 174 eL
 ch:CH 0 tT [] wS w
section
variable {w0 wS w w':eI} {hi lp q g:Nat} {R R':gh} {eL:kx}
theorem LD.Wk(h:LD w0 hi w lp q R)(d:w0.heap.size<=hi):LD w0 hi (w.setCell (eJ lp 1) (fz false)) lp q R:=by have a:CH hi [524] [] w (w.setCell (eJ lp 1) (fz false)):=CH.set h.1 h.2.1 (by simp) 1 _;obtain⟨f,g,i,j,k,b,c⟩:=h;exact⟨f.set 1 _,g,i,j,k,⟨b.st.keep a (λa=>by have:=a.1;omega) (λl m a=>by have:=a.1;have:=c l m;omega),b.base,b.m9,a.lP b.ext d⟩,c⟩
theorem LD.keep(h:LD w0 hi w lp q R){S:Nat->Prop}(d:fi S w w')(b:∀k,S k->hi<=k/\k≠lp)(o:w0.heap.size<=hi):LD w0 hi w' lp q R:=by obtain⟨i,j,l,m,n,c,g⟩:=h;exact⟨d.eH i (λa=>(b _ a).2 rfl),j,l,m,n,⟨c.st.keep d (λa=>by have:=(b _ a).1;omega) (λk f a=>by have:=(b _ a).1;have:=g k f;omega),c.base,c.m9,fi.ext d c.ext (λk f=>by have:=(b _ f).1;omega)⟩,g⟩
theorem LD.grown(h:LD w0 hi w lp q R){gt:Nat}(b:w.grownBy w' (some gt))(c:hi<=gt)(d:gt≠lp)(f:w0.heap.size<=hi):LD w0 hi w' lp q R:=
 h.keep (fi.grown b) (λg a=>by simp only[fd] at a;subst a;exact⟨c,d⟩) f
theorem pb(a:LD w0 hi w lp q R)(h:LD w0 hi w' lp q R'):∃b:KW [lp] w,w'=b.w:=⟨⟨w',λd c=>by rw[fF.1 c];exact h.1.trans a.1.symm⟩,rfl⟩
theorem EV(h:LD w0 hi w lp q R)(a:eQ w g 174 eL)(b:hi<=g)(c:w0.heap.size<=hi):DD w0 hi lp q g w w R eL:=⟨⟨c,h.1.lt,a.lt,b,eY b (lN a.lt)⟩,h,a,CH.refl _ _ _ _⟩
theorem nj{B:Nat}{L L':mB}(h:CH B L [] w w')(b:∀a∈L,a∈L'):CH 0 L' [] w w':=fi.mono h λj c=>⟨eX _,c.2.imp (λ⟨d,a,f,g,i⟩=>⟨d,a,f,g,b a i⟩) id⟩
theorem DD.read(h:DD w0 hi lp q g wS w R eL)(b:LD w0 hi w' lp q R')(a:CH w0 P6 [] w w'):DD w0 hi lp q g wS w' R' eL:=
 ⟨h.c,b,a.eH h.im,h.ch.fk (nj a (by decide))⟩
theorem DD.new(h:DD w0 hi lp q g wS w R eL){S:Nat->Prop}(a:fi S w w')(b:∀k,S k->wS.heap.size<=k):DD w0 hi lp q g wS w' R eL:=
 ⟨h.c,h.ld.keep a (λk c=>by have:=b k c;have:=h.c.Wj;have:=h.c.L3;omega) h.c.h0,a.eH h.im (λd=>by have:=b _ d;have:=h.c.hg;omega),fi.trans h.ch a (λf hi=>.inr (b f hi))⟩
theorem DD.ext(h:DD w0 hi lp q g wS w R eL)(a:eF w w'):DD w0 hi lp q g wS w' R eL:=h.new (S:=λ_=>False) (fi.fg a) (λ_=>False.elim)
theorem DD.put(h:DD w0 hi lp q g wS w R eL)(i:Nat)(v:eS):DD w0 hi lp q g wS (w.setCell (eJ g i) v) R (eL.setIfInBounds i v):=
 ⟨h.c,h.ld.ch (L:=[174]) (CH.set h.im h.c.V9 (by simp) i v) (by decide) h.c.h0,h.im.set i v,h.ch.fk (CH.set h.im (eX _) (by decide) i v)⟩
theorem DD.re(h:DD w0 hi lp q g wS w R eL):DD w0 hi lp q g w w R eL:=EV h.ld h.im h.c.V9 h.c.h0
theorem DD.size(h:DD w0 hi lp q g wS w R eL):wS.heap.size<=w.heap.size:=h.ch.size
theorem ra(h:DD w0 hi lp q g wS w R eL)(e:R=R'):DD w0 hi lp q g wS w R' eL:=e▸h
end
theorem Ot:(prog.info? 255).map (·.size)=some 4:=by kernel_rfl
theorem KX:(prog.info? 118).map (·.size)=some 9:=by kernel_rfl
structure IV(w0:eI)(hi lp q g:Nat)(wS w:eI)(gt:Nat)(gC R:gh)(eL:kx):Prop where
 x:∃BA bc,eQ w gt 255 #[eE 0,eE gC.length,.slice BA gC bc,eE 5]/\w.ownsRow wS 5 1 (.slice BA gC bc) gC (jl gC)
 d:DD w0 hi lp q g wS w R eL
theorem Ou{q gt:Nat}{gC:gh}(h:DD w n k q m v W kR kJ)(b:eQ W gt 255 #[eE 0,eE gC.length,eW,eE 0])(c:v.heap.size<=gt)(f:W.ownsRow u 5 1 (.slice A gC i) gC (jl gC))(g:v.heap.size<=u.heap.size):
 IV w n k q m v ((W.setCell (eJ gt 3) (eE 5)).setCell (eJ gt 2) (.slice A gC i)) gt gC kR kJ:=by have d:=b.set 3 (eE 5);have j:CH 0 [255] [] W (W.setCell (eJ gt 3) (eE 5)):=CH.set b (eX _) (by simp) 3 _;have l:CH 0 [255] [] (W.setCell (eJ gt 3) (eE 5)) ((W.setCell (eJ gt 3) (eE 5)).setCell (eJ gt 2) (.slice A gC.length i)):=CH.set d (eX _) (by simp) 2 _;refine⟨⟨A,i,d.set 2 _,(j.fk l).own (fq f g)⟩, ?_⟩;exact(h.new (fi.set W gt 3 _) (λo a=>by rw[a];exact c)).new (fi.set _ gt 2 _) (λo a=>by rw[a];exact c)
theorem Bu{q:Nat}{R':gh}(a:DD w n k q m v u kR kJ)(h:DD w n k q m V W R' kJ):KC [k,m] u W:=KC.of λc b=>by
 simp only[fm,gp,gq] at b;rcases b with rfl|rfl
 ·exact h.ld.1.trans a.ld.1.symm
 ·exact h.im.trans a.im.symm
theorem fo.TE{L:List (eS×fS)}{B:Nat}(h:fo B w L)(f:∀g∈iG L,g<n){b:eS}{a:fS}(c:w.ownsRow n 3 1 b a (ints a))(i:B<=n):fo B w (L++[(b,a)]):=by
 refine .of (λm hm=> ?_) ?_
 ·rcases gu.1 hm with hm|hm
  ·exact h.mem hm
  ·obtain rfl:=fF.1 hm;exact fq c i
 ·rw[jC];have d:fo n w [(b,a)]:=.one c;refine kF.2 ⟨h.nodup,d.nodup,λj k o l e=> ?_⟩;have p:=f j k;have r:=(d.lt l).1;omega
structure Pt(w:eI)(B:Nat)(s:lu)(SA:fE)(sc:Nat)(BA:fE)(bc:Nat)(A:fE)(c:Nat)(A2:fE)(c2:Nat)(A3:fE)(brs:List Bk)(c3:Nat):Prop where
 FY:uV w B SA sc BA bc s.gC
 h':w.ownsRow B 130 2 (.slice A s.ft c) s.ft (fO mr s.ft)
 sy:w.ownsRow B 118 9 (.slice A2 s.gy c2) s.gy (fO iV.eL s.gy)
 bk:w.ownsRow B 23 1 (.slice A3 brs c3) brs (brs.map Bk.cell)
theorem Pt.ch{w:eI}{B:Nat}{s:lu}{A b:fE}{sc c:Nat}{d:List Bk}(h:Pt w B s C sc H n A c I k b d m)(a:CH 0 tT [] w v):Pt v B s C sc H n A c I k b d m:=
 ⟨h.FY.ch a (by decide) (by decide),a.own h.h',a.own h.sy,a.own h.bk⟩
def Ov(w:eI)(s:lu)(e:Ending)(w':eI):Prop:=∃m:Im,e=fH (ij #[fV m.eL.toArray,eE 0])/\my w' w m s/\eF w w'
theorem G6(B:fE)(bZ:Nat)(a:lu)(Q:eI)(hB:Rd Q B (jl a.enc))(az:a.Ok)(hE:IE a)(b0:∀dI∈a.gy,dI.Fit)(b1:∀aY:Tb,aY.bs.map Bk.is=a.mU->aY.ws=a.gv->aY.sh=6->j5 aY a.gy=true):
 Calls prog 316 #[.slice B a.enc bZ] Q (Ov Q a):=by
 have bq:=eD az;have R:=eD hE;have dJ:=eD b0;have dK:=eD b1;have b2:iu a.gB 1=true/\0<=a.gB/\a.gB<=1:=by rcases az.gB with h|h<;>rw[h]<;>decide
 have b3:=eD b2;have am:=eD hE.ke.le;have ej:=hE.ke.le.1;have ek:=hE.ke.le.2.1;have em:a.name.length<=64:=by rcases az.name with h|h;rw[h];simp;exact h.2.2
 have en:a.gC.length<=64/\a.ft.length<=8/\a.gy.length<=2/\a.gv.length<=64/\a.mU.length<=512:=⟨hE.UD,az.h',az.gy,hE.wl,hE.bl⟩;have hT:=hE.len;obtain⟨aZ,br⟩:∃aZ,aZ=a.enc:=⟨_,rfl⟩;rw[<-br] at hT hB ⊢;have HX:Hid (aZ=sP rL++(sP a.name++(fD 1 a.gB++(fD 1 1++(fD 4 0++(fD 4 a.gC.length++(fD 1 5++((fD 4 a.gC.length++a.gC)++(fD 1 a.ft.length++a.e1))))))))):=eD br;have bs:=eD hB;have HT:=eD hT;clear br az hE b2 hB hT b0 b1;go_in;go_wp
 have b4:=eQ.new Q 174 rp;have b5:=fM Q (eN rp 174);have b6:=eF.alloc Q (eN rp 174);generalize Q.alloc (eN rp 174)=A at*;try rw[<-b5]
 clear b5;have bt:=eD b6;have dL:=eD b4;clear b6 b4;refine(TD aZ HT B bZ (bt.rd bs)).mono ?_;rintro e w2 ⟨q,rfl,bu,bv⟩;have ak:=eD bv.size;have an:=eD (eY bt.size bv.size);clear bv;go_wp21
 generalize w2.alloc (eN #[fw q,fz false] 524)=w3 at*;generalize w2.heap.size=g at*;have b7:=eD (On bu HX);have b8:Hid (Calls prog 353 #[fw q] w3 (Vw A g w3 g q (sP a.name++(fD 1 a.gB++(fD 1 1++(fD 4 0++(fD 4 a.gC.length++(fD 1 5++((fD 4 a.gC.length++a.gC)++(fD 1 a.ft.length++a.e1)))))))) (eV ⟨#[99,108,101,118,105,115,49]⟩))):=eD (uW rL (by decide) b7);have i:=bu.p;clear bu HX;go_wp
 refine b8.mono ?_;rintro e w4 ⟨rfl,h4,_⟩;have f1:=h4.1.frozen 1;have c1:=h4.1.ce 1 (fz false);have aG:=eD (h4.Wk ak);clear h4 i b8 b7;go_wp2;generalize w4.setCell (eJ g 1) (fz false)=w5 at*;clear f1 c1;have t:=eD aG.1;have i:=λk:KW [g] w5=>k.cell (t.ce 0 (fw q)) (by simp);go_cut [5] (λs5 S=>∃l,s5=fw l/\DD A g g q l S S (fD 1 1++(fD 4 0++(fD 4 a.gC.length++(fD 1 5++((fD 4 a.gC.length++a.gC)++(fD 1 a.ft.length++a.e1)))))) #[eV (fI a.name),eE a.gB,eW,eW,eW,eW,eW,eW,eE 0,eW,eW,eW,eW,eW,eE 0])
 case first=>as_aux_lemma=>
  refine rx [g] [0,1,2,3,5,6,7,8] [4,11] ((.jG (.e [11] (.e [4] (.e [9] (.q [10] (.e [12] .done))))) (.e [4] (.jG (.e [11] (.e [9] (.q [10] (.e [12] .done)))) (.e [9] (.q [10] (.e [11] (.e [12] .done)))))))) ?_;repeat(go_big_quiet_step (fail))
  refine eO ?_;clear i;have j:=eD (aG.ex (eF.drew w5));generalize World.drew w5=k at*;repeat' first
   |(with_reducible show jq _ _ _ _ _ (.jG _ _) _ _
     refine fX ?_ ?_)
   |(with_reducible show jq _ _ _ _ _ (.e [11] _) _ _
     refine eZ ?_;go_wp
     have n:=eQ.new k 174 rp;have al:=eD j.1.lt;have j:=eD (j.ex (eF.alloc k (eN rp 174)));generalize k.heap.size=gt at*;generalize k.alloc (eN rp 174)=k at*;have af:=eD n;clear n;refine⟨pb aG j, ?_⟩)
   |((first
      |(with_reducible show jq _ _ _ _ _ (.e [4] _) _ _
        refine eZ ?_;go_wp
        refine(uW a.name (by omega) j).mono ?_)
      |(with_reducible show jq _ _ _ _ _ (.e [9] _) _ _
        refine eZ ?_;go_wp
        refine(jv 1 rfl a.gB b3.1 (by have:=b3.2;omega) j).mono ?_))
     rintro e k ⟨rfl,d,b⟩;try have af:=eD (b.eH af)
     have j:=eD d;clear d b;go_wp2;refine⟨pb aG j, ?_⟩)
   |(with_reducible show jq _ _ _ _ _ (.q _ _) _ _
     refine fj ?_;repeat(go_big_quiet_step (fail))
     refine eO ?_)
   |(refine eT ?_
     go_wp2_with (refine eG rfl 174 (.tmp 5) (.tmp 34) rfl gt rfl [eV (fI a.name),eE a.gB,eW,eW,eW,eW,eW,eW,eE 0,eW,eW,eW,eW,eW,eE 0] rfl af (by simp[Value.oneCell']) qB (by rfl) ?_)
     intro wz bz gz;have R:=eD (EV (j.grown gz (by have:=al.out;omega) (by have:=al.out;omega) ak.out) bz (by have:=al.out;omega) ak.out);clear bz gz;refine iH ?_;refine fP ?_;go_wp
     go_meet;exact⟨gt,rfl,R⟩)
 case rest=>as_aux_lemma=>
  obtain⟨l,rfl,f⟩:=hcut;obtain⟨wA,rfl⟩:∃wA,wA=wc:=⟨wc,rfl⟩;have a0:=eD f;clear i aG t f;have i:=a0.ld.p;go_wp
  refine(jv 1 rfl 1 (by decide) (by decide) a0.ld).mono ?_;rintro e w6 ⟨rfl,d,b⟩;have a1:=eD (a0.read d b).re;clear d b i a0;go_wp2;refine wp_loop_rounds 2 ?_;rw[rounds_succ];go_wp
  have t:=eD a1.ld.1;have i:=λk:KW [g] w6=>k.cell (t.ce 0 (fw q)) (by simp);go_cut [6] (λs6 S=>∃gt,s6=fw gt/\w6.heap.size<=gt/\eQ S gt 255 #[eE 0,eE a.gC.length,eW,eE 0]/\DD A g g q l w6 S (fD 1 5++((fD 4 a.gC.length++a.gC)++(fD 1 a.ft.length++a.e1))) #[eV (fI a.name),eE a.gB,eW,eW,eW,eW,eW,eW,eE 0,eW,eW,eW,eW,eW,eE 0])
  case first=>as_aux_lemma=>
   refine rx [g] [0,1,2,3,5,6,7,8] [4,11] ((.jG (.e [11] (.e [4] (.e [9] (.q [10] (.e [12] .done))))) (.e [4] (.jG (.e [11] (.e [9] (.q [10] (.e [12] .done)))) (.e [9] (.q [10] (.e [11] (.e [12] .done)))))))) ?_;repeat(go_big_quiet_step (fail))
   refine eO ?_;clear i;have j:=eD (a1.ext (eF.drew w6));generalize World.drew w6=k at*;repeat' first
    |(with_reducible show jq _ _ _ _ _ (.jG _ _) _ _
      refine fX ?_ ?_)
    |(with_reducible show jq _ _ _ _ _ (.e [11] _) _ _
      refine eZ ?_;go_wp
      have n:=eQ.new k 255 Qd;have al:=eD (eY (fJ _) j.ch.size);have j:=eD (j.ext (eF.alloc k (eN Qd 255)));generalize k.heap.size=gt at*;generalize k.alloc (eN Qd 255)=k at*;have af:=eD n;clear n;refine⟨pb a1.ld j.ld, ?_⟩)
    |((first
       |(with_reducible show jq _ _ _ _ _ (.e [4] _) _ _
         refine eZ ?_;go_wp
         refine(jv 4 rfl 0 (by decide) (by decide) j.ld).mono ?_)
       |(with_reducible show jq _ _ _ _ _ (.e [9] _) _ _
         refine eZ ?_;go_wp
         refine(jv 4 rfl a.gC.length (iP (by omega) (by omega)) (by omega) j.ld).mono ?_))
      rintro e k ⟨rfl,d,b⟩;try have af:=eD (b.eH af)
      have j:=eD (j.read d b);clear d b;go_wp2;refine⟨pb a1.ld j.ld, ?_⟩)
    |(with_reducible show jq _ _ _ _ _ (.q _ _) _ _
      refine fj ?_;repeat(go_big_quiet_step (fail))
      refine eO ?_)
    |(refine eT ?_
      go_wp2_with (refine eG rfl 255 (.tmp 6) (.tmp 52) rfl gt rfl [eE 0,eE a.gC.length,eW,eE 0] rfl af (by simp[Value.oneCell']) Ot (by rfl) ?_)
      intro wz bz gz;have R:=eD (j.new (fi.grown gz) (λb r=>by simp only[fd] at r;subst r;exact al));have aH:=eD bz;clear bz gz;refine iH ?_;refine fP ?_;go_wp
      go_meet;exact⟨gt,rfl,al,aH,R⟩)
  case rest=>as_aux_lemma=>
   obtain⟨gt,rfl,b9,X,f⟩:=hcut;obtain⟨w7,rfl⟩:∃w7,w7=wc:=⟨wc,rfl⟩;have aA:=eD f;have dM:=eD b9;have b':=eD X;clear i t f b9 X;go_wp
   have t:=eD aA.ld.1;have i:=λk:KW [g] w7=>k.cell (t.ce 0 (fw q)) (by simp);go_cut [6] (λs6 S=>s6=fw gt/\IV A g g q l w6 S gt a.gC (fD 1 a.ft.length++a.e1) #[eV (fI a.name),eE a.gB,eW,eW,eW,eW,eW,eW,eE 0,eW,eW,eW,eW,eW,eE 0])
   case first=>as_aux_lemma=>
    refine rx [g] [0,1,2,3,5,6,7,8] [4,10] ((.e [4] (.jG (.e [10] (.e [9] (.e [11] (.q [12] (.e [13] .done))))) (.e [9] (.e [10] (.e [11] (.q [12] (.e [13] .done)))))))) ?_;repeat(go_big_quiet_step (fail))
    refine eO ?_;clear i;have K:=eD (aA.ext (eF.drew w7));have aI:=eD ((eF.drew w7).eH b');generalize World.drew w7=v0 at*;refine eZ ?_;go_wp
    refine(jv 1 rfl 5 (by decide) (by decide) K.ld).mono ?_;rintro e v1 ⟨rfl,d,b⟩;have o:=eD (K.read d b);have aJ:=eD (b.eH aI);clear d b;go_wp2;refine⟨pb aA.ld o.ld, ?_⟩;have j:=o;refine fX ?_ ?_<;>(
     iterate 2 first
      |(with_reducible show jq _ _ _ _ _ (.e [10] _) _ _
        refine eZ ?_;go_wp
        refine⟨pb aA.ld j.ld, ?_⟩)
      |(refine eZ ?_
        go_wp
        refine(EU a.gC (by omega) o.ld).mono ?_;rintro e v2 ⟨BA,bc,rfl,u,d,b⟩;have j:=eD (o.read d b);have N:=eD (b.eH aJ);clear d b;go_wp2;refine⟨pb aA.ld j.ld, ?_⟩)
     have fa:=N.frozen 3;have fb:=N.frozen 2;have ca:=N.ce 3 (eE 0);have cb:=N.ce 2 (eW);refine eT ?_;go_wp
     refine fj ?_;repeat(go_big_quiet_step (fail))
     refine eO ?_;refine eT ?_;go_wp
     have R:=eD (Ou j N dM u o.size);clear fa fb ca cb u;rw[m8];refine fP ?_;go_wp
     go_meet;exact⟨rfl,R⟩)
   case rest=>as_aux_lemma=>
    obtain⟨rfl,dN⟩:=hcut;obtain⟨w8,rfl⟩:∃w8,w8=wc:=⟨wc,rfl⟩;obtain⟨⟨BA,bc,X,cc⟩,f⟩:=dN;have cd:=eD cc;have k2:=f.im.ce 2 (eW);have s0:=X.ce 0 (eE 0);have s1:=X.ce 1 (eE a.gC.length);have s2:=X.ce 2 (.slice BA a.gC.length bc);have s3:=X.ce 3 (eE 5);have ce:=eD f;have cf:=eD f.size;clear i t aA b' f X cc;go_wp2_with (at_builtin;go_loud(refine AZ rfl _ _ rfl (ji _ w6 _ _) cf rfl [eE 0,eE a.gC.length,.slice BA a.gC.length bc,eE 5] rfl rfl (by simp[Value.oneCell']) (by omega) ?_))
    intro v9 w9 C O _;obtain⟨v,w,rfl⟩:=eR C;have a2:=(ce.ext (eF.alloc _ _)).new (fi.grown O) (λb r=>by simp[Value.ownBlock] at r);have cg:=eD (show uV w9 w6 v w BA bc a.gC from⟨by simpa using C,(fi.grown O).own ((eF.alloc _ _).own cd) (λb _ r=>by simp[Value.ownBlock] at r)⟩);have f2:=a2.im.frozen 2;have dO:=a2.im.ce 2 (eW);have bw:=eD a2;clear C O a2 k2 s0 s1 s2 s3 ce cd cf;go_wp
    have ch:=eD (show CH 0 tT [] w9 (w9.setCell (eJ l 2) (.slice v 1 w)) from CH.set bw.im (eX _) (by decide) 2 _);have aK:=eD (show DD A g g q l w6 (w9.setCell (eJ l 2) (.slice v 1 w)) (fD 1 a.ft.length++a.e1) #[eV (fI a.name),eE a.gB,.slice v 1 w,eW,eW,eW,eW,eW,eE 0,eW,eW,eW,eW,eW,eE 0] from bw.put 2 _);have ci:=eD (cg.ch ch (by decide) (by decide));clear bw cg ch f2 dO;generalize w9.setCell (eJ l 2) (.slice v 1 w)=eo at*;rw[rounds_succ];have i:=aK.ld.p;go_wp
    refine(jv 1 rfl a.ft.length (iP (by omega) (by omega)) (by omega) aK.ld).mono ?_;rintro e aL ⟨rfl,d,b⟩;have cj:=eD (show DD A g g q l aL aL (a.ft.flatMap mq++(fD 1 0++(fD 2 a.gy.length++a.e2))) #[eV (fI a.name),eE a.gB,.slice v 1 w,eW,eW,eW,eW,eW,eE 0,eW,eW,eW,eW,eW,eE 0] from(aK.read d b).re);have ck:=eD (ci.ch (nj (L':=tT) b (by decide)) (by decide) (by decide));have dP:=eD (show g<=w6.heap.size from aK.c.L3);clear d b i aK ci;go_wp2;go_loopw [77] (λT wr=>∃(b:Nat) (x:fE) (y:Nat),b<=a.ft.length/\T=eE b/\wr.ownsRow aL 130 2 (.slice x b y) b (fO mr (a.ft.take b))/\DD A g g q l aL wr ((a.ft.drop b).flatMap mq++(fD 1 0++(fD 2 a.gy.length++a.e2))) #[eV (fI a.name),eE a.gB,.slice v 1 w,.slice x b y,eW,eW,eW,eW,eE 0,eW,eW,eW,eW,eW,eE 0]) (λT _=>a.ft.length- (intOf T).toNat)
    case atStart=>exact⟨0,none,0,eX _,rfl,ji _ _ _ _,cj⟩
    case round=>as_aux_lemma=>
     obtain⟨b,x,y,r,rfl,u,f⟩:=hrel;clear cj;by_cases D:b<a.ft.length
     ·have ad:=ra f (R':=sP a.ft[b]++(fD 1 0++((a.ft.drop (b+1)).flatMap mq++(fD 1 0++(fD 2 a.gy.length++a.e2))))) (by rw[mu mq a.ft D,mq,iK]);have U:=bq.eP _ (eU D);have aq:Hid (fO mr (a.ft.take (b+1))=fO mr (a.ft.take b)++mr a.ft[b]):=eD (by rw[iz D,hZ];simp[fO]);have HO:=eD u;have E:=eD ad;have i:=ad.ld.p;clear f ad u;generalize a.ft[b]=nm at*;go_wp
      refine(uW nm (by omega) E.ld).mono ?_;rintro e wa ⟨rfl,d,c⟩;have a3:=eD (E.read d c);have bx:=eD (c.own HO);clear d c i E HO;have i:=(a3.ext (eF.alloc wa (eN #[eV (fI nm),eW] 130))).ld.p;go_wp21
      clear i;have cl:Hid (∀p,(Value.slice x b y).ownBlock=some p->p≠wa.heap.size):=eD (λp n e=>by have:=(bx.lt p n).2;omega);have cm:=eQ.new wa 130 #[eV (fI nm),eW];have cn:=fM wa (eN #[eV (fI nm),eW] 130);have bA:=eF.alloc wa (eN #[eV (fI nm),eW] 130);generalize wa.alloc (eN #[eV (fI nm),eW] 130)=wb at*;try rw[<-cn]
      clear cn;have bB:=eD (a3.ext bA);have cp:=eD (bA.own bx);have dQ:=eD a3.size;generalize wa.heap.size=bC at*;clear bA a3 bx;refine(jv 1 rfl 0 (by decide) (by decide) bB.ld).mono ?_;rintro e wd ⟨rfl,d,c⟩;have cq:=eD (bB.read d c);have cr:=eD (c.own cp);have bd:=c.eH cm;clear d c bB cp cm;go_wp21
      refine(ze g wd).mono ?_;rintro e w' ⟨rfl,rfl⟩;have f1:=bd.frozen 1;have c1:=bd.ce 1 (eW);have bD:=bd.set 1 (eW);have a4:=eD (cq.new (fi.set wd bC 1 (eW)) (λb r=>by rw[r];exact dQ));have bE:=eD ((fi.set wd bC 1 (eW)).own cr (λp n hs=>cl p n hs));have k3:=a4.im.ce 3 (.slice x b y);have s0:=bD.ce 0 (eV (fI nm));have s1:=bD.ce 1 (eW);have cs:=eD a4.size;clear cq cr bd bD cl;go_upto_region 14 with(fail)
      generalize wd.setCell (eJ bC 1) (eW)=we at*;go_wp2_with (at_builtin;go_loud(refine yH rfl _ _ rfl bE cs rfl [eV (fI nm),eW] rfl rfl (by simp[Value.oneCell']) (by omega) ?_))
      intro v9 wf C O _;obtain⟨F,G,rfl⟩:=eR C;have H:=(a4.ext (eF.alloc _ _)).new (fi.grown O) (λp n=>(bE.lt p n.symm).1);have f3:=H.im.frozen 3;have dR:=H.im.ce 3 (.slice x b y);have V:=eD H;have ag:Hid (wf.ownsRow aL 130 2 (.slice F (b+1) G) (b+1) (fO mr (a.ft.take (b+1)))):=eD (by rw[aq];exact C);clear C O H k3 s0 s1 a4 bE cs f1 c1;go_wp
      have ar:=eD ((show CH 0 tT [] wf (wf.setCell (eJ l 3) (.slice F (b+1) G)) from CH.set V.im (eX _) (by decide) 3 _).own ag);have au:=eD (V.put 3 (.slice F (b+1) G));clear V ag f3 dR;go_roundw
      case rel=>exact⟨b+1,F,G,by omega,by go_num,ar,au⟩
      case measure=>simp[intOf];omega
     ·obtain rfl:b=a.ft.length:=by omega
      have E:=eD (ra f (nE mq a.ft _));have aM:=eD (show wr.ownsRow Q 130 2 (.slice x a.ft.length y) a.ft.length (fO mr a.ft) from fq (by simpa using u) (eY an f.c.L3));have aN:=eD (ck.ch f.ch (by decide) (by decide));have i:=f.ld.p;clear f u D r ck;go_wp
      refine(jv 1 rfl 0 (by decide) (by decide) E.ld).mono ?_;rintro e a5 ⟨rfl,d,c⟩;have aB:=eD (E.read d c).re;have ct:=eD (aN.ch (nj (L':=tT) c (by decide)) (by decide) (by decide));have cu:=eD (c.own aM);clear d c i E aN aM;go_wp21
      refine(ze g a5).mono ?_;rintro e w' ⟨rfl,rfl⟩;have f4:=aB.im.frozen 4;have k4:=aB.im.ce 4 (eW);have i:=aB.ld.p;have bF:CH 0 tT [] a5 (a5.setCell (eJ l 4) (eW)):=CH.set aB.im (eX _) (by decide) 4 _;go_wp21
      have a6:=eD (aB.put 4 (eW)).re;have cv:=eD (ct.ch bF (by decide) (by decide));have cw:=eD (bF.own cu);clear f4 k4 i bF aB ct cu;generalize a5.setCell (eJ l 4) (eW)=ep at*;have i:=a6.ld.p;go_wp
      refine(jv 2 rfl a.gy.length (iP (by omega) (by omega)) (by omega) a6.ld).mono ?_;rintro e aC ⟨rfl,d,c⟩;have cx:=eD (show DD A g g q l aC aC (a.gy.flatMap rK++(fD 2 a.mU.length++a.e3)) #[eV (fI a.name),eE a.gB,.slice v 1 w,.slice x a.ft.length y,eW,eW,eW,eW,eE 0,eW,eW,eW,eW,eW,eE 0] from(a6.read d c).re);have cy:=eD (cv.ch (nj (L':=tT) c (by decide)) (by decide) (by decide));have cz:=eD (c.own cw);clear d c i a6 cv cw;go_wp2;go_loopw [113] (λT wr=>∃(b:Nat) (I:fE) (J:Nat),b<=a.gy.length/\T=eE b/\wr.ownsRow aC 118 9 (.slice I b J) b (fO iV.eL (a.gy.take b))/\DD A g g q l aC wr ((a.gy.drop b).flatMap rK++(fD 2 a.mU.length++a.e3)) #[eV (fI a.name),eE a.gB,.slice v 1 w,.slice x a.ft.length y,eW,.slice I b J,eW,eW,eE 0,eW,eW,eW,eW,eW,eE 0]) (λT _=>a.gy.length- (intOf T).toNat)
      case atStart=>exact⟨0,none,0,eX _,rfl,ji _ _ _ _,cx⟩
      case round=>as_aux_lemma=>
       obtain⟨b,I,J,r,rfl,u,f⟩:=hrel;clear cx;by_cases D:b<a.gy.length
       ·obtain⟨d,ah,ai,aj,hs,_,_,er,bG,dS,dT,dU⟩:=bq.sym _ (eU D);obtain⟨Y,hX⟩:∃Y,Y=(a.gy.drop (b+1)).flatMap rK++(fD 2 a.mU.length++a.e3):=⟨_,rfl⟩;have aO:=eD hX;have ad:=ra f (R':=sP d++(sP []++(fD 1 1++(fD 1 ah++(fD 1 0++(fD 1 0++(fD 1 1++(fD 8 ai++(fD 8 aj++Y))))))))) (by rw[mu rK a.gy D,hs,IG,hX]);have aq:Hid (fO iV.eL (a.gy.take (b+1))=fO iV.eL (a.gy.take b)++[.string (fI d),.string (fI []),.bool false,.int .i64 1,.bool false,.int .i64 ah,.bool true,.int .i64 ai,.int .i64 aj]):=eD (by rw[iz D,hZ,hs];simp[fO,gR,iV.eL];rfl);have HB:Hid (-9223372036854775808<=ah/\ah<=9223372036854775807/\ -9223372036854775808<=ai/\ai<=9223372036854775807/\ -9223372036854775808<=aj/\aj<=9223372036854775807):=eD (by rcases bG with rfl|rfl<;>omega);have dV:Hid (iu ah 1=true):=eD (by rcases bG with rfl|rfl<;>decide);obtain⟨s,rfl⟩:∃s,s=wr:=⟨wr,rfl⟩;have bH:=eD ad;have z:=eD ad.re;have HO:=eD u;clear hX f ad u hs bG dS dT dU;have t:=eD z.ld.1;have i:=λk:KW [g] s=>k.cell (t.ce 0 (fw q)) (by simp);go_wp
        go_cut [8] (λs8 S=>∃W,s8=fw W/\s.heap.size<=W/\eQ S W 118 #[eV (fI d),eV (fI []),fz false,eE 1,fz false,eE ah,fz false,eE 0,eE 0]/\DD A g g q l s S (fD 1 0++(fD 1 0++(fD 1 1++(fD 8 ai++(fD 8 aj++Y))))) #[eV (fI a.name),eE a.gB,.slice v 1 w,.slice x a.ft.length y,eW,.slice I b J,eW,eW,eE 0,eW,eW,eW,eW,eW,eE 0])
        case first=>as_aux_lemma=>
         refine rx [g] [0,1,2,3,5,6,7,8,10,11,12,13,15,16,17,18] [4,9,14,21] ((.jG (.e [21] (.e [4] (.e [9] (.e [14] (.e [19] (.q [20] (.e [22] .done))))))) (.e [4] (.jG (.e [21] (.e [9] (.e [14] (.e [19] (.q [20] (.e [22] .done)))))) (.e [9] (.jG (.e [21] (.e [14] (.e [19] (.q [20] (.e [22] .done))))) (.e [14] (.jG (.e [21] (.e [19] (.q [20] (.e [22] .done)))) (.e [19] (.q [20] (.e [21] (.e [22] .done)))))))))))) ?_;repeat(go_big_quiet_step (fail))
         refine eO ?_;clear i;have j:=eD (z.ext (eF.drew s));generalize World.drew s=k at*;repeat' first
          |(with_reducible show jq _ _ _ _ _ (.jG _ _) _ _
            refine fX ?_ ?_)
          |(with_reducible show jq _ _ _ _ _ (.e [21] _) _ _
            refine eZ ?_;go_wp
            have n:=eQ.new k 118 rf;have al:=eD (eY (fJ _) j.ch.size);have j:=eD (j.ext (eF.alloc k (eN rf 118)));generalize k.heap.size=gt at*;generalize k.alloc (eN rf 118)=k at*;have af:=eD n;clear n;refine⟨pb z.ld j.ld, ?_⟩)
          |((first
             |(with_reducible show jq _ _ _ _ _ (.e [4] _) _ _
               refine eZ ?_;go_wp
               refine(uW d (by omega) j.ld).mono ?_)
             |(with_reducible show jq _ _ _ _ _ (.e [9] _) _ _
               refine eZ ?_;go_wp
               refine(uW [] (by decide) j.ld).mono ?_)
             |(with_reducible show jq _ _ _ _ _ (.e [14] _) _ _
               refine eZ ?_;go_wp
               refine(jv 1 rfl 1 (by decide) (by decide) j.ld).mono ?_)
             |(with_reducible show jq _ _ _ _ _ (.e [19] _) _ _
               refine eZ ?_;go_wp
               refine(jv 1 rfl ah dV ⟨HB.1,HB.2.1⟩ j.ld).mono ?_))
            rintro e k ⟨rfl,d,b⟩;try have af:=eD (b.eH af)
            have j:=eD (j.read d b);clear d b;go_wp2;refine⟨pb z.ld j.ld, ?_⟩)
          |(with_reducible show jq _ _ _ _ _ (.q _ _) _ _
            refine fj ?_;repeat(go_big_quiet_step (fail))
            refine eO ?_)
          |(refine eT ?_
            go_wp2_with (refine eG rfl 118 (.tmp 8) (.tmp 135) rfl gt rfl [eV (fI d),eV (fI []),fz false,eE 1,fz false,eE ah,fz false,eE 0,eE 0] rfl af (by simp[Value.oneCell']) KX (by rfl) ?_)
            intro wz bz gz;have R:=eD (j.new (fi.grown gz) (λb r=>by simp only[fd] at r;subst r;exact al));have aH:=eD bz;clear bz gz;refine iH ?_;refine fP ?_;go_wp
            go_meet;exact⟨gt,rfl,al,aH,R⟩)
        case rest=>as_aux_lemma=>
         obtain⟨W,rfl,cA,X,f⟩:=hcut;obtain⟨cB,rfl⟩:∃cB,cB=wc:=⟨wc,rfl⟩;have aP:=eD cA;have cC:=eD X;have bI:=eD f;clear i t cA X f;go_wp
         refine(CL false bI.ld ak).mono ?_;rintro e es ⟨rfl,l1,c⟩;have bJ:=eD (bI.read l1 c);have cD:=eD (c.eH cC);clear l1 c bI cC;go_wp21
         refine(CL false bJ.ld ak).mono ?_;rintro e et ⟨rfl,l1,c⟩;have bK:=eD (bJ.read l1 c);have cE:=eD (c.eH cD);clear l1 c bJ cD;go_wp21
         refine(CL true bK.ld ak).mono ?_;rintro e cF ⟨rfl,l1,c⟩;have cG:=eD (bK.read l1 c);have ao:=eD (c.eH cE);clear l1 c bK cE;have f2:=ao.frozen 2;have f4:=ao.frozen 4;have f6:=ao.frozen 6;have g2:=ao.ce 2 (fz false);have g4:=ao.ce 4 (fz false);have g6:=ao.ce 6 (fz false);go_wp2;have aD:=eD (((cG.new (fi.set cF W 2 (fz false)) (λp n=>by rw[n];exact aP)).new (fi.set _ W 4 (fz false)) (λp n=>by rw[n];exact aP)).new (fi.set _ W 6 (fz true)) (λp n=>by rw[n];exact aP));have cH:=eD (((ao.set 2 (fz false)).set 4 (fz false)).set 6 (fz true));clear f2 f4 f6 g2 g4 g6 cG ao;generalize((cF.setCell (eJ W 2) (fz false)).setCell (eJ W 4) (fz false)).setCell (eJ W 6) (fz true)=a7 at*;have t:=eD aD.ld.1;have i:=λk:KW [g] a7=>k.cell (t.ce 0 (fw q)) (by simp);go_cut [8] (λs8 S=>s8=fw W/\eQ S W 118 #[eV (fI d),eV (fI []),fz false,eE 1,fz false,eE ah,fz true,eE ai,eE aj]/\DD A g g q l s S Y #[eV (fI a.name),eE a.gB,.slice v 1 w,.slice x a.ft.length y,eW,.slice I b J,eW,eW,eE 0,eW,eW,eW,eW,eW,eE 0])
         case first=>as_aux_lemma=>
          refine rx [g] [0,1,2,3,5,6,7,8] [4,10] ((.e [4] (.jG (.e [10] (.e [9] (.e [11] (.q [12] (.e [13] .done))))) (.e [9] (.e [10] (.e [11] (.q [12] (.e [13] .done)))))))) ?_;repeat(go_big_quiet_step (fail))
          refine eO ?_;clear i;have K:=eD (aD.ext (eF.drew a7));have aI:=eD ((eF.drew a7).eH cH);generalize World.drew a7=v0 at*;refine eZ ?_;go_wp
          refine(jv 8 rfl ai (AQ _) ⟨HB.2.2.1,HB.2.2.2.1⟩ K.ld).mono ?_;rintro e v1 ⟨rfl,d,b⟩;have o:=eD (K.read d b);have aJ:=eD (b.eH aI);clear d b;go_wp2;refine⟨pb aD.ld o.ld, ?_⟩;have j:=o;refine fX ?_ ?_<;>(
           iterate 2 first
            |(with_reducible show jq _ _ _ _ _ (.e [10] _) _ _
              refine eZ ?_;go_wp
              refine⟨pb aD.ld j.ld, ?_⟩)
            |(refine eZ ?_
              go_wp
              refine(jv 8 rfl aj (AQ _) HB.2.2.2.2 o.ld).mono ?_;rintro e v2 ⟨rfl,d,b⟩;have j:=eD (o.read d b);have N:=eD (b.eH aJ);clear d b;go_wp2;refine⟨pb aD.ld j.ld, ?_⟩)
           have fa:=N.frozen 7;have fb:=N.frozen 8;have ca:=N.ce 7 (eE 0);have cb:=N.ce 8 (eE 0);refine eT ?_;go_wp
           refine fj ?_;repeat(go_big_quiet_step (fail))
           refine eO ?_;refine eT ?_;go_wp
           have R:=eD ((j.new (fi.set v2 W 7 (eE ai)) (λp n=>by rw[n];exact aP)).new (fi.set _ W 8 (eE aj)) (λp n=>by rw[n];exact aP));have aH:=eD ((N.set 7 (eE ai)).set 8 (eE aj));clear fa fb ca cb;rw[m8];refine fP ?_;go_wp
           go_meet;exact⟨rfl,aH,R⟩)
         case rest=>as_aux_lemma=>
          obtain⟨rfl,X,f⟩:=hcut;obtain⟨a8,rfl⟩:∃a8,a8=wc:=⟨wc,rfl⟩;have bL:=eD (f.ch.own HO);have bM:=eD (show DD A g g q l aC a8 Y #[eV (fI a.name),eE a.gB,.slice v 1 w,.slice x a.ft.length y,eW,.slice I b J,eW,eW,eE 0,eW,eW,eW,eW,eW,eE 0] from⟨bH.c,f.ld,f.im,bH.ch.fk f.ch⟩);have cI:=eD bM.size;have k5:=f.im.ce 5 (.slice I b J);obtain⟨sl,a9⟩:∃sl:fY,sl=[.string (fI d),.string (fI []),.bool false,.int .i64 1,.bool false,.int .i64 ah,.bool true,.int .i64 ai,.int .i64 aj]:=⟨_,rfl⟩;have cJ:eQ a8 W 118 sl.toArray:=by rw[a9];exact X
          have a':Hid (sl.length=9/\∀k∈sl,k.oneCell'=true):=eD (by rw[a9];exact⟨rfl,by simp[Value.oneCell']⟩);have cK:=eD (cJ.fK (P:=prog) 118 _ underlying118 rfl (by rw[a'.1];kernel_rfl));have cL:Hid (fO iV.eL (a.gy.take (b+1))=fO iV.eL (a.gy.take b)++sl):=eD (by rw[aq,a9]);clear i t X f aD cH HO bH z a9 cJ;go_wp2_with (first|(refine eK rfl 118 (.tmp 8) rfl _ rfl (fV sl.toArray) cK ?_)|(refine jF rfl 165 118 (.tmp 159) rfl sl 9 rfl underlying165 (by kernel_rfl) a'.1 (by decide) ?_)|(at_builtin;go_loud(refine Ba rfl _ _ rfl bL cI rfl sl rfl a'.1 a'.2 (by omega) ?_)))
          intro v9 wf C O _;obtain⟨F,G,rfl⟩:=eR C;have H:=(bM.ext (eF.alloc _ _)).new (fi.grown O) (λp n=>(bL.lt p n.symm).1);have f5:=H.im.frozen 5;have dW:=H.im.ce 5 (.slice I b J);have V:=eD H;have ag:Hid (wf.ownsRow aC 118 9 (.slice F (b+1) G) (b+1) (fO iV.eL (a.gy.take (b+1)))):=eD (by rw[cL];exact C);clear C O H k5 bM bL cI cK cL;go_wp
          have ar:=eD ((show CH 0 tT [] wf (wf.setCell (eJ l 5) (.slice F (b+1) G)) from CH.set V.im (eX _) (by decide) 5 _).own ag);have au:=eD (ra (V.put 5 (.slice F (b+1) G)) aO);clear V ag f5 dW;go_roundw
          case rel=>exact⟨b+1,F,G,by omega,by go_num,ar,au⟩
          case measure=>simp[intOf];omega
       ·obtain rfl:b=a.gy.length:=by omega
        have E:=eD (ra f (nE rK a.gy _));have cM:=eD (show wr.ownsRow Q 118 9 (.slice I a.gy.length J) a.gy.length (fO iV.eL a.gy) from fq (by simpa using u) (eY an f.c.L3));have aN:=eD (cy.ch f.ch (by decide) (by decide));have aM:=eD (f.ch.own cz);have i:=f.ld.p;clear f u D r cy cz;go_wp
        refine(jv 2 rfl a.mU.length (iP (by omega) (by omega)) (by omega) E.ld).mono ?_;rintro e av ⟨rfl,d,c⟩;have cN:=eD (show DD A g g q l av av (a.mU.flatMap It++a.tail) #[eV (fI a.name),eE a.gB,.slice v 1 w,.slice x a.ft.length y,eW,.slice I a.gy.length J,eW,eW,eE 0,eW,eW,eW,eW,eW,eE 0] from(E.read d c).re);have cO:=eD (aN.ch (nj (L':=tT) c (by decide)) (by decide) (by decide));have cP:=eD (c.own aM);have cQ:=eD (c.own cM);clear d c i E aN aM cM;go_wp2;go_loopw [169] (λT wr=>∃(m:List Bk) (A3:fE) (c3:Nat),m.length<=a.mU.length/\T=eE m.length/\m.map Bk.is=a.mU.take m.length/\wr.ownsRow av 23 1 (.slice A3 m.length c3) m.length (m.map Bk.cell)/\fo av wr (m.map λp=>(p.cell,p.is))/\DD A g g q l av wr ((a.mU.drop m.length).flatMap It++a.tail) #[eV (fI a.name),eE a.gB,.slice v 1 w,.slice x a.ft.length y,eW,.slice I a.gy.length J,.slice A3 m.length c3,eW,eE 0,eW,eW,eW,eW,eW,eE 0]) (λT _=>a.mU.length- (intOf T).toNat)
        case atStart=>exact⟨[],none,0,eX _,rfl,rfl,ji _ _ _ _,.of (by simp) (by simp[iG]),cN⟩
        case round=>as_aux_lemma=>
         obtain⟨m,A3,c3,r,rfl,bb,u,be,f⟩:=hrel;clear cN;by_cases D:m.length<a.mU.length
         ·have dX:=R.bf _ (eU D);obtain⟨eu,cR⟩:=dX;obtain⟨Y,hX⟩:∃Y,Y=(a.mU.drop (m.length+1)).flatMap It++a.tail:=⟨_,rfl⟩;have aO:=eD hX;have ad:=ra f (R':=fD 2 a.mU[m.length].length++(kL 2 a.mU[m.length]++Y)) (by rw[mu It a.mU D,It,iK,hX]);have bN:=eD cR;have aq:=eD (iz D);have bs:=eD bb;obtain⟨s,rfl⟩:∃s,s=wr:=⟨wr,rfl⟩;have z:=eD ad;have HO:=eD u;have ap:=eD be;clear hX f ad u be bb cR;generalize a.mU[m.length]=bl at*;have t:=eD z.ld.1;have HG:=eD z.im;have i:=λk:KW [g,l] s=>k.cell (t.ce 0 (fw q)) (by simp);have d6:=λk:KW [g,l] s=>k.cell (HG.ce 6 (.slice A3 m.length c3)) (by simp);go_wp
          refine gU [g,l] [0,1,2,3,4,5,6,7] [8,9,10,11,12,13,14] 3 ?_;repeat(go_big_quiet_step (fail))
          refine eO ?_;clear i d6 t HG;have K:=eD (z.ext (eF.drew s));have aQ:=eD ((eF.drew s).own HO);have cS:=eD (ap.ext (eF.drew s));clear HO ap;generalize World.drew s=v0 at*;refine gH ?_;go_wp
          refine(jv 2 rfl bl.length (iP (by omega) (by omega)) (by omega) K.ld).mono ?_;rintro e v1 ⟨rfl,d,c⟩;have o:=eD (K.read d c);have aE:=eD (c.own aQ);have bO:=eD (cS.ch c);clear d c K aQ cS;go_wp2;refine⟨Bu z o, ?_⟩;refine gH ?_;go_wp
          refine(zc 2 rfl bl (λZ U=>iP (by have:=bN Z U;omega) (by have:=bN Z U;omega)) (λZ U=>by have:=bN Z U;omega) (by omega) o.ld ak (eY o.c.L3 o.size)).mono ?_;rintro e v2 ⟨nv,rfl,no,d,c⟩;obtain⟨nA,nc,rfl⟩:=eR no;have aR:=eD (o.read d c);have bf:=eD (c.own aE);have bP:Hid (fo av v2 ((m++[(⟨nA,nc,bl⟩:Bk)]).map λp:Bk=>(p.cell,p.is))):=eD (by rw[iC];exact(bO.ch c).TE (λb r=>(bO.lt r).2) no o.size)
          clear d c no o aE bO;go_wp2;refine⟨Bu z aR, ?_⟩;refine gH ?_;go_wp
          refine⟨Bu z (aR.ext (eF.alloc _ _)), ?_⟩;refine jm ?_;have cT:=eD aR.size;go_wp2_with (at_builtin;go_loud(refine AY rfl _ _ rfl bf cT rfl [.slice nA bl.length nc] rfl rfl (by simp[Value.oneCell']) (by omega) ?_))
          intro v9 wf C O _;obtain⟨F,G,rfl⟩:=eR C;have H:=(aR.ext (eF.alloc _ _)).new (fi.grown O) (λp n=>(bf.lt p n.symm).1);have cU:=eD ((bP.ext (eF.alloc v2 (eN #[.slice nA bl.length nc] 23))).lS (fi.grown O) (λp n hs=>by have h1:=tO ((eF.alloc v2 (eN #[.slice nA bl.length nc] 23)).own bf) hs.symm;obtain⟨ev,hp,e⟩:=fu.1 n;have h2:=tO ((bP.ext (eF.alloc v2 (eN #[.slice nA bl.length nc] 23))).mem hp) e;exact h1.not (L':=[3]) (by decide) h2))
          have f6:=H.im.frozen 6;have k6:=H.im.ce 6 (.slice A3 m.length c3);have V:=eD H;have ag:Hid (wf.ownsRow av 23 1 (.slice F (m.length+1) G) (m.length+1) ((m++[(⟨nA,nc,bl⟩:Bk)]).map Bk.cell)):=eD (by rw[iC];exact C);clear C O H aR bf bP cT z;go_wp
          have bQ:CH 0 tT [] wf (wf.setCell (eJ l 6) (.slice F (m.length+1) G)):=CH.set V.im (eX _) (by decide) 6 _;have ar:=eD (bQ.own ag);have dY:=eD (cU.ch bQ);have au:=eD (ra (V.put 6 (.slice F (m.length+1) G)) aO);have dZ:Hid ((m++[(⟨nA,nc,bl⟩:Bk)]).map Bk.is=a.mU.take (m.length+1)):=eD (by rw[aq,iC,bs];rfl);clear V ag cU f6 k6 bQ;go_roundw
          case rel=>
           refine⟨m++[⟨nA,nc,bl⟩],F,G, ?_, ?_, ?_, ?_,dY.out, ?_⟩
           ·simp;omega
           ·simp
           ·rw[fT];exact dZ
           ·rw[fT];exact ar
           ·rw[fT];exact au
          case measure=>simp[intOf];omega
         ·have bR:m.length=a.mU.length:=by omega
          have E:=eD (ra f (R':=fD 1 6++(fD 1 a.gv.length++a.t1)) (by rw[bR,nE,IF]));have cV:Hid (m.map Bk.is=a.mU):=eD (by rw[bb,bR,iT]);have aS:=eD (show Pt wr Q a v w BA bc x y I J A3 m c3 from⟨(cO.ch f.ch (by decide) (by decide)).mono (eY an dP),f.ch.own cP,f.ch.own cQ,fq u (eY an f.c.L3)⟩);have ap:=eD (be.mono (eY an f.c.L3));have i:=f.ld.p;clear f u be bb r bR cO cP cQ;go_wp
          clear D;refine(jv 1 rfl 6 (by decide) (by decide) E.ld).mono ?_;rintro e bS ⟨rfl,d,c⟩;have aT:=eD (E.read d c).re;have cW:=eD (aS.ch (nj c (by decide)));have cX:=eD (ap.ch c);clear d c i E aS ap;have f8:=aT.im.frozen 8;have k8:=aT.im.ce 8 (eE 0);have bT:CH 0 tT [] bS (bS.setCell (eJ l 8) (eE 6)):=CH.set aT.im (eX _) (by decide) 8 _;have bg:=eD (aT.put 8 (eE 6)).re;have cY:=eD (cW.ch bT);have cZ:=eD (cX.ch bT);have i:=bg.ld.p;go_wp21
          clear f8 k8 bT aT cW cX;generalize bS.setCell (eJ l 8) (eE 6)=ew at*;refine(jv 1 rfl a.gv.length (iP (by omega) (by omega)) (by omega) bg.ld).mono ?_;rintro e aw ⟨rfl,d,c⟩;have c0:=eD (show DD A g g q l aw aw (a.gv.flatMap wB++a.t2) #[eV (fI a.name),eE a.gB,.slice v 1 w,.slice x a.ft.length y,eW,.slice I a.gy.length J,.slice A3 m.length c3,eW,eE 6,eW,eW,eW,eW,eW,eE 0] from(bg.read d c).re);have c2:=eD (cY.ch (nj c (by decide)));have c8:=eD (cZ.ch c);clear d c i bg cY cZ;go_wp2;go_loopw [199] (λT wr=>∃(b:Nat) (A4:fE) (c4:Nat),b<=a.gv.length/\T=eE b/\wr.ownsRow aw 270 1 (.slice A4 b c4) b (kq (a.gv.take b))/\DD A g g q l aw wr ((a.gv.drop b).flatMap wB++a.t2) #[eV (fI a.name),eE a.gB,.slice v 1 w,.slice x a.ft.length y,eW,.slice I a.gy.length J,.slice A3 m.length c3,.slice A4 b c4,eE 6,eW,eW,eW,eW,eW,eE 0]) (λT _=>a.gv.length- (intOf T).toNat)
          case atStart=>exact⟨0,none,0,eX _,rfl,ji _ _ _ _,c0⟩
          case round=>as_aux_lemma=>
           obtain⟨b,A4,c4,r,rfl,u,f⟩:=hrel;clear c0;by_cases D:b<a.gv.length
           ·have d':=R.wf _ (eU D);have ea:=eD (NF _ d');obtain⟨Y,hX⟩:∃Y,Y=(a.gv.drop (b+1)).flatMap wB++a.t2:=⟨_,rfl⟩;have aO:=eD hX;have ad:=ra f (R':=fD 8 (wrap64 a.gv[b])++Y) (by rw[mu wB a.gv D,wB,yO,hX]);have aq:Hid (kq (a.gv.take (b+1))=kq (a.gv.take b)++[.int .u64 (a.gv[b]:Nat)]):=eD (by rw[iz D];unfold kq;rw[iC];rfl);obtain⟨s,rfl⟩:∃s,s=wr:=⟨wr,rfl⟩;have z:=eD ad;have HO:=eD u;clear hX f ad u;generalize a.gv[b]=xw at*;have t:=eD z.ld.1;have HG:=eD z.im;have i:=λk:KW [g,l] s=>k.cell (t.ce 0 (fw q)) (by simp);have d7:=λk:KW [g,l] s=>k.cell (HG.ce 7 (.slice A4 b c4)) (by simp);go_wp
            refine gU [g,l] [0,1,2,3,4,5,6,7] [8,9,10,11,12,13,14,15] 3 ?_;repeat(go_big_quiet_step (fail))
            refine eO ?_;clear i d7 t HG;have K:=eD (z.ext (eF.drew s));have aQ:=eD ((eF.drew s).own HO);clear HO;generalize World.drew s=v0 at*;refine gH ?_;go_wp
            refine(jv 8 rfl (wrap64 xw) (AQ _) (Bf _) K.ld).mono ?_;rintro e v1 ⟨rfl,d,c⟩;have o:=eD (K.read d c);have aE:=eD (c.own aQ);clear d c K aQ;go_wp2;refine⟨Bu z o, ?_⟩;refine gH ?_;go_wp
            rw[ea];refine⟨Bu z o, ?_⟩;refine gH ?_;go_wp
            refine⟨Bu z (o.ext (eF.alloc _ _)), ?_⟩;refine jm ?_;have c9:=eD o.size;go_wp2_with (at_builtin;go_loud(refine J8 rfl _ _ rfl aE c9 rfl [.int .u64 (xw:Nat)] rfl rfl (by simp[Value.oneCell']) (by omega) ?_))
            intro v9 wf C O _;obtain⟨F,G,rfl⟩:=eR C;have H:=(o.ext (eF.alloc _ _)).new (fi.grown O) (λp n=>(aE.lt p n.symm).1);have f7:=H.im.frozen 7;have k7:=H.im.ce 7 (.slice A4 b c4);have V:=eD H;have ag:Hid (wf.ownsRow aw 270 1 (.slice F (b+1) G) (b+1) (kq (a.gv.take (b+1)))):=eD (by rw[aq];exact C);clear C O H o aE c9 z;go_wp
            have ar:=eD ((show CH 0 tT [] wf (wf.setCell (eJ l 7) (.slice F (b+1) G)) from CH.set V.im (eX _) (by decide) 7 _).own ag);have au:=eD (ra (V.put 7 (.slice F (b+1) G)) aO);clear V ag f7 k7;go_roundw
            case rel=>exact⟨b+1,F,G,by omega,by go_num,ar,au⟩
            case measure=>simp[intOf];omega
           ·obtain rfl:b=a.gv.length:=by omega
            have E:Hid (DD A g g q l aw wr (fD 2 0++(fD 2 0++(fD 1 a.inits.length++(kL 4 a.inits++(fD 1 a.gJ.length++(kL 4 a.gJ++(fD 2 0++fD 4 0))))))) #[eV (fI a.name),eE a.gB,.slice v 1 w,.slice x a.ft.length y,eW,.slice I a.gy.length J,.slice A3 m.length c3,.slice A4 a.gv.length c4,eE 6,eW,eW,eW,eW,eW,eE 0]):=eD (ra f (nE wB a.gv _));have aS:=eD (c2.ch f.ch);have ap:=eD (c8.ch f.ch);have c':=eD (show wr.ownsRow Q 270 1 (.slice A4 a.gv.length c4) a.gv.length (kq a.gv) from fq (by simpa using u) (eY an f.c.L3));have i:=f.ld.p;clear f u D r c2 c8;go_wp
            refine(jv 2 rfl 0 (by decide) (by decide) E.ld).mono ?_;rintro e ex ⟨rfl,d,c⟩;have bh:=eD (E.read d c);have da:=eD (aS.ch (nj c (by decide)));have db:=eD (ap.ch c);have dc:=eD (c.own c');clear d c i E aS ap c';have i:=bh.ld.p;go_wp2;refine wp_loop_rounds 1 ?_;rw[rounds_succ];go_wp
            refine(jv 2 rfl 0 (by decide) (by decide) bh.ld).mono ?_;rintro e ey ⟨rfl,d,c⟩;have bi:=eD (bh.read d c);have dd:=eD (da.ch (nj c (by decide)));have de:=eD (db.ch c);have df:=eD (c.own dc);clear d c i bh da db dc;have i:=bi.ld.p;go_wp2;refine wp_loop_rounds 1 ?_;rw[rounds_succ];go_wp
            refine(jv 1 rfl a.inits.length (iP (by omega) (by omega)) (by omega) bi.ld).mono ?_;rintro e ez ⟨rfl,d,c⟩;have ax:=eD (bi.read d c);have dg:=eD (dd.ch (nj c (by decide)));have bU:=eD (de.ch c);have dh:=eD (c.own df);clear d c i bi dd de df;go_wp21
            refine(zc 4 rfl a.inits (λZ U=>iP (by have:=am.2.2.1 Z U;omega) (by have:=am.2.2.1 Z U;omega)) (λZ U=>by have:=am.2.2.1 Z U;omega) (by have:=am.1;omega) ax.ld ak (eY ax.c.L3 ax.size)).mono ?_;rintro e bV ⟨nv,rfl,no,d,c⟩;obtain⟨A5,c5,rfl⟩:=eR no;have aU:=eD (ax.read d c);have di:=eD (dg.ch (nj c (by decide)));have dj:=eD ((bU.ch c).TE (λb r=>(bU.lt r).2) no (eY an (eY ax.c.L3 ax.size)));have dk:=eD (c.own dh);clear d c no ax dg bU dh;have f11:=aU.im.frozen 11;have eb:=aU.im.ce 11 (eW);have bj:CH 0 tT [] bV (bV.setCell (eJ l 11) (.slice A5 a.inits.length c5)):=CH.set aU.im (eX _) (by decide) 11 _;have bk:=eD (aU.put 11 (.slice A5 a.inits.length c5));have dl:=eD (di.ch bj);have dm:=eD (dj.ch bj);have dn:=eD (bj.own dk);have i:=bk.ld.p;go_wp21
            clear f11 eb bj aU di dj dk;generalize bV.setCell (eJ l 11) (.slice A5 a.inits.length c5)=eA at*;refine(jv 1 rfl a.gJ.length (iP (by omega) (by omega)) (by omega) bk.ld).mono ?_;rintro e eB ⟨rfl,d,c⟩;have ay:=eD (bk.read d c);have dp:=eD (dl.ch (nj c (by decide)));have bW:=eD (dm.ch c);have dq:=eD (c.own dn);clear d c i bk dl dm dn;go_wp21
            refine(zc 4 rfl a.gJ (λZ U=>iP (by have:=am.2.2.2 Z U;omega) (by have:=am.2.2.2 Z U;omega)) (λZ U=>by have:=am.2.2.2 Z U;omega) (by have:=am.2.1;omega) ay.ld ak (eY ay.c.L3 ay.size)).mono ?_;rintro e bm ⟨nv,rfl,no,d,c⟩;obtain⟨A6,c6,rfl⟩:=eR no;have aV:=eD (ay.read d c);have dr:=eD (dp.ch (nj c (by decide)));have ds:=eD ((bW.ch c).TE (λb r=>(bW.lt r).2) no (eY an (eY ay.c.L3 ay.size)));have dt:=eD (c.own dq);clear d c no ay dp bW dq;have f12:=aV.im.frozen 12;have ec:=aV.im.ce 12 (eW);have bn:CH 0 tT [] bm (bm.setCell (eJ l 12) (.slice A6 a.gJ.length c6)):=CH.set aV.im (eX _) (by decide) 12 _;have aF:=eD (show DD A g g q l aw (bm.setCell (eJ l 12) (.slice A6 a.gJ.length c6)) (fD 2 0++(fD 4 0++[]++[])) #[eV (fI a.name),eE a.gB,.slice v 1 w,.slice x a.ft.length y,eW,.slice I a.gy.length J,.slice A3 m.length c3,.slice A4 a.gv.length c4,eE 6,eW,eW,.slice A5 a.inits.length c5,.slice A6 a.gJ.length c6,eW,eE 0] from ra (aV.put 12 (.slice A6 a.gJ.length c6)) (by simp)).re;have du:=eD (dr.ch bn);have dv:=eD (ds.ch bn);have dw:=eD (bn.own dt);go_wp2;clear f12 ec bn aV dr ds dt;generalize bm.setCell (eJ l 12) (.slice A6 a.gJ.length c6)=bo at*;have t:=eD aF.ld.1;have i:=λk:KW [g] bo=>k.cell (t.ce 0 (fw q)) (by simp);go_cut [5] (λs5 S=>s5=fw l/\∃A7 c7,DD A g g q l bo S [] #[eV (fI a.name),eE a.gB,.slice v 1 w,.slice x a.ft.length y,eW,.slice I a.gy.length J,.slice A3 m.length c3,.slice A4 a.gv.length c4,eE 6,eW,eW,.slice A5 a.inits.length c5,.slice A6 a.gJ.length c6,.slice A7 0 c7,eE 0])
            case first=>as_aux_lemma=>
             refine rx [g] [0,1,2,3,5,6,7,8] [4,10] ((.e [4] (.jG (.e [10] (.e [9] (.e [11] (.q [12] (.e [13] .done))))) (.e [9] (.e [10] (.e [11] (.q [12] (.e [13] .done)))))))) ?_;repeat(go_big_quiet_step (fail))
             refine eO ?_;clear i;have K:=eD (aF.ext (eF.drew bo));have aI:=eD K.im;generalize World.drew bo=v0 at*;refine eZ ?_;go_wp
             refine(jv 2 rfl 0 (by decide) (by decide) K.ld).mono ?_;rintro e v1 ⟨rfl,d,b⟩;have o:=eD (K.read d b);have aJ:=eD (b.eH aI);clear d b;go_wp2;refine⟨pb aF.ld o.ld, ?_⟩;have j:=o;refine fX ?_ ?_<;>(
              iterate 2 first
               |(with_reducible show jq _ _ _ _ _ (.e [10] _) _ _
                 refine eZ ?_;go_wp
                 refine⟨pb aF.ld j.ld, ?_⟩)
               |(refine eZ ?_
                 go_wp
                 refine(EU [] (by decide) o.ld).mono ?_;rintro e v2 ⟨dx,dy,rfl,u,d,b⟩;have j:=eD (o.read d b);have N:=eD (b.eH aJ);clear d b;go_wp2;refine⟨pb aF.ld j.ld, ?_⟩)
              have fa:=N.frozen 14;have fb:=N.frozen 13;have ca:=N.ce 14 (eE 0);have cb:=N.ce 13 (eW);refine eT ?_;go_wp
              refine fj ?_;repeat(go_big_quiet_step (fail))
              refine eO ?_;refine eT ?_;go_wp
              have ed:=eD ((j.put 14 (eE 0)).put 13 (.slice dx 0 dy));clear fa fb ca cb;rw[m8];refine fP ?_;go_wp
              go_meet;exact⟨rfl,dx,dy,ed⟩)
            case rest=>as_aux_lemma=>
             obtain⟨rfl,A7,c7,f⟩:=hcut;obtain⟨aW,rfl⟩:∃aW,aW=wc:=⟨wc,rfl⟩;have dz:=eD f;obtain⟨ae,hm⟩:∃ae:Im,ae=⟨fI a.name,a.gB,⟨v,1,w⟩,⟨x,a.ft.length,y⟩,⟨none,0,0⟩,I,J,a.gy,⟨A3,c3,m,A4,c4,a.gv,6⟩,⟨none,0,0⟩,⟨none,0,0⟩,⟨A5,a.inits.length,c5⟩,⟨A6,a.gJ.length,c6⟩,⟨A7,0,c7⟩,0⟩:=⟨_,rfl⟩;have aX:=du.ch f.ch;have bp:Hid (my aW Q ae a):=eD (by subst hm;exact⟨rfl,rfl,rfl,⟨BA,bc,aX.FY⟩,rfl,aX.h',rfl,rfl,rfl,rfl,rfl,rfl,rfl,bq.out,rfl,rfl,aX.sy,aX.bk,cV.out,f.ch.own dw.out,rfl,rfl,(dv.out.ch f.ch).iU (by simp only[oX,iK,nO,j6];exact(wT (l₁:=m.map λp:Bk=>(p.cell,p.is)) (l₂:=[(_,a.inits),(_,a.gJ)])))⟩)
             have bX:Hid (eQ aW l 174 ae.eL.toArray):=eD (by subst hm;exact f.im);have i:=f.ld.p;have c1:=f.ld.1.ce 1 (fz false);have dA:=eD (dK ae.t (by subst hm;exact cV) (by subst hm;rfl) (by subst hm;rfl));have dB:=eD (Cq ae a aW (bp.TB R).1 (bp.TB R).2 dA dJ R.ke);have dC:=eD (bt.trans f.ld.lF);have dD:=eD (f.ld.lF.eH dL);clear f aX hm t aF du dv dw dA;go_wp
             refine(TC dz.ld).mono ?_;rintro e w' ⟨rfl,rfl⟩;go_wp2_with (refine eK rfl 174 (.tmp 5) rfl _ rfl (fV ae.eL.toArray) ?_ ?_)
             ·exact oD bX
             go_wp
             refine dB.mono ?_;rintro e eC ⟨rfl,hx⟩;have ef:=eD (hx.eH bX);have dE:=eD (hx.eH dD);have eg:=eD (bp.ch (CH.fg (B:=0) (L:=[]) (M:=[]) hx) (by simp) (by simp) (by simp) (by simp) (by simp) (by simp) (by simp));have eh:=eD (dC.trans hx);clear hx i c1 bX dD bp dC dz dB;go_wp2_with (first|(refine eK rfl 174 (.tmp 5) rfl _ rfl (.agg ae.eL.toArray) ?_ ?_)|(refine eG rfl 174 (.tmp 2) (.tmp 331) rfl Q.heap.size rfl ae.eL rfl dE.out (λk hu=>qu [ae] k (by rw[x6];exact hu)) (by rw[vM];exact qB) (by rfl) ?_))
             ·exact oD ef
             intro dF dG bY;have ei:=eD (oD dG);have dH:Hid (my dF Q ae a/\eF Q dF):=eD ⟨eg.ch (B0:=0) (L:=[174]) (fi.mono (fi.grown bY) λp n=>by simp only[fd] at n;subst n;exact⟨eX _,.inl ⟨_,_,_,dE,by simp⟩⟩) (by decide) (by decide) (by decide) (by decide) (by decide) (by decide) (by decide),(fi.grown bY).ext eh.out⟩
             clear dG bY;go_wp
             exact iA (oY rfl rfl ei) rfl ⟨ae,rfl,dH.1,dH.2⟩
end
