/- TopOnce: part 26 of the proof. -/
import Derived.LaidMore
import Derived.Lay
import Derived.Test.YtoaehdgokeicoaaGreatDoorCards
import Derived.Test.YtoaehdgokeicoaaGreatDoorTie
import Derived.Test.YtoaehdgokeicoaaGreatDoorZ03
set_option maxRecDepth 100000
set_option maxHeartbeats 30000000
set_option linter.all false
namespace Go.Proofs.YtoaehdgokeicoaaGreatDoor
open K9 Z9 Go.Proofs.Tryz
section
variable{u W V U:eI}{n k m i j p b c d g N B K G M:Nat}{x y z X Y Z:eS}{D E F:Int}{A C I:fE}{l L J T:fY}{r s t R S:fe}{f:ik}{a:Act}{O P:List Oper}{kH:Program}
section
open Go.ChangeShapes Go.WideShapes Go.ChangeAt Go.RowKit Go.Joins
section
def Vc(w:eI)(v:eS)(bs:List Bk):Prop:=∃A cap,v=.slice A bs cap/\Rd w A (bs.map Bk.cell)/\∀k∈bs,k.In w
def SR(w:eI)(v:eS)(k:Bk):Prop:=v=k.cell/\k.In w
section
variable {H:Type} {enc:ik×eS->H} {w:eI} {base:Nat} {spare:Nat->Bool} {held:Bool} {r:Reach} {b0:Nat} {v:eS} {d:DataW H} {ps:List MemPlace}
theorem zB{α:Type}{e:ik}{Q:α->fY->Prop}{t:DataW H×List MemPlace}(p:kH.underlying f=some (.slice e))(u:kH.cellsOf e=k)(Y:0<k)(h:DataW.trod enc kH w base spare held n f [v]=some t)(x:An kH f t.1)(K:∀n b y,DataW.trod enc kH w base spare held n e b=some y->An kH e y.1->b.length=k->∃d,Q d b):
 ∃z r i,v=.slice z i.length r/\T9 w z k Q i/\i.length*kH.bytesOf e<=140737488351232:=by
 rcases Go.Deep.open_slice p h with⟨j,A⟩|⟨d,g,r,B,Z,s,Pl,j,_,hl,hm,L,A,C⟩
 ·simp only[zK,gP] at j;subst j;exact⟨none,0,[],rfl,λa d h=>by simp at h,by simp⟩
 ·simp only[zK,gP] at j;subst j;subst A;have ad:g<=B:=by rw[L];split<;>omega
  have M:g*kH.bytesOf e<=140737488351232:=by have:=x (((List.range g).map s).length*kH.bytesOf e+((List.range (B- g)).map λc=>s (g+c)).length*kH.bytesOf e) (by simp only[DataW.weights,p,fm];left;rw[lI]);simp at this;omega
  obtain⟨i,D,N⟩:=xS (α:=α) (Q:=λa l=>∃m o b,some d=some ((eJ m o):Addr)/\b.length=k/\Q l b/\∀c,c<k->w.cell? (eJ m (o+a*k+c))=b[c]?) g (λa ae=>by
   obtain⟨O,E,P⟩:=C a (by omega);rw[u] at E;obtain⟨_,F,R⟩:=World.cells?_some E;obtain⟨l,S⟩:=K _ _ _ P (λG T=>x G (by simp only[DataW.weights,p,fm,gu];exact .inr (.inl (wy _ (s a) (fy.2 ⟨a,by simp;omega,rfl⟩) G T)))) F
   refine⟨l, ?_⟩;obtain⟨m,o,U⟩:=d;have V:U=none:=by obtain⟨af,I,_⟩:=C 0 (by omega);rw[u] at I;obtain⟨_,ag,W⟩:=World.cells?_some I;have J:=W 0 (by omega);rw[gg (by omega)] at J;have:=World.cell?_spot J;simpa[Addr.add] using this
   subst V;refine⟨m,o,O,rfl,F,S,λc hj=> ?_⟩;have:=R c (by omega);rw[P4,P4] at this;exact this)
  exact⟨some d,r,i,by rw[D],λa l X=>N a l X,by rw[D];exact M⟩
theorem BV{f:DataW H×List MemPlace}(h:DataW.trod enc prog w base spare held n 23 [v]=some f)(r:An prog 23 f.1):
 ∃g:Bk,v=g.cell/\g.In w:=by
 obtain⟨s,t,i,rfl,j,k⟩:=zB (α:=Int) (Q:=λa b=>b=[.int .i64 a]/\sM a) underlying23 (show prog.cellsOf 3=1 by kernel_rfl) (by omega) h r (λn b B u _ _=>by obtain⟨a,rfl,C,x⟩:=DataW.trod_int underlying3 u;exact⟨a,rfl,bounds_i64 x⟩)
 rw[show prog.bytesOf 3=8 by kernel_rfl] at k;refine⟨⟨s,t,i⟩,rfl,λc d=> ?_,λa y=> ?_,k⟩
 ·have z:c<i.length:=by simpa[ints] using d
  obtain⟨l,m,b,o,_,⟨rfl,_⟩,p⟩:=j c _ (gg z);refine⟨l,m,o, ?_⟩;have:=p 0 (by omega);rw[qP,m5] at this;rw[this];simp[ints]
 ·obtain⟨c,d,rfl⟩:=gN y;obtain⟨l,m,b,o,_,⟨_,A⟩,p⟩:=j c _ (gg d);exact A
theorem LR(o:Value.okWide prog w r b0 22 v)(p:DataW.Trod enc prog w base spare held 22 v d ps)(s:An prog 22 d):∃t,Vc w v t:=by
 obtain⟨G,H,I,rfl⟩:=okWide_slice underlying22 o;obtain⟨u,x⟩:=p;obtain⟨y,z,i,A,j,_⟩:=zB (α:=Bk) (Q:=λa b=>b=[a.cell]/\a.In w) underlying22 (show prog.cellsOf 23=1 by kernel_rfl) (by omega) (by simpa[Value.cells] using x) s (λu b J B C D=>by
  match b,D with
  |[K],_=>
  obtain⟨a,rfl,f⟩:=BV B C;exact⟨a,rfl,f⟩)
 refine⟨i,y,z,A,λc g=> ?_,λa f=> ?_⟩
 ·have E:c<i.length:=by simpa using g
  obtain⟨k,l,b,m,_,⟨rfl,_⟩,n⟩:=j c _ (gg E);refine⟨k,l,m, ?_⟩;have:=n 0 (by omega);rw[qP,m5] at this;rw[this];simp
 ·obtain⟨c,g,rfl⟩:=gN f;obtain⟨k,l,b,m,_,⟨_,F⟩,n⟩:=j c _ (gg g);exact F
theorem Hq(a:Value.okWide prog w r b0 23 v)(b:DataW.Trod enc prog w base spare held 23 v d ps)(c:An prog 23 d):∃f,SR w v f:=by obtain⟨i,j,k,rfl⟩:=okWide_slice underlying23 a;obtain⟨l,g⟩:=b;exact BV (by simpa[Value.cells] using g) c
end
def xE:Prop:=∀(v0 v1:eS) (x0:List Bk) (x1:Bk) (w:eI),Vc w v0 x0->SR w v1 x1->Calls prog 3 #[v0,v1] w λe w'=>e=fH (fz true)/\eF w w'
theorem Hr(y:xE)(os:Os)(z:os.Started)(A:Type)(enc:ik×eS->A):
 ReturnsInHanded {} checked os 3 .any (λa args=>(Rows.topOnceSpec.pre enc prog f3 Rows.topOnceRow.domain false a args/\laidMetH prog Rows.topOnceRow.laid a)/\sizedMet enc prog f3 (OpenSpec.ofChange Rows.topOnceSpec) false a args)
  (Rows.topOnceSpec.post enc prog f3 false true false false):=by
 refine returnsInHanded_of_change_and (C:=checked) (X:=λa _=>laidMetH prog Rows.topOnceRow.laid a) (λ_ _ _ B h=>h.of_heap B) own z (by kernel_rfl) func3
  (ChangeSpec.witness_shaped (enc:=enc) (C:=checked) (os:=os) (X:=λa _=>laidMetH prog Rows.topOnceRow.laid a) false (World.laidAll prog os Rows.topOnceRow.laid) #[.slice none 0 0,.slice none 0 0] 8 (World.laidAll_os _ _ _)
    (World.shaped_of_ZipB (by kernel_rfl) (by kernel_rfl)) (by kernel_rfl) (by kernel_rfl) (by kernel_rfl)
    (by rw[MakeChecks.laidMetH_plain _ _ _ (by kernel_rfl)];exact laidMet_laidAll _ (by kernel_rfl) (by kernel_rfl))) ?_
 intro b D args p E T r s U t _ _;have c:(DataW.weightsEach prog (f3.params.toList++Rows.topOnceSpec.plain.varTypes prog) (p++E)).all (· <=reachBytes)=true:=t;clear t;have d:∀(j:Nat) u v,f3.params[j]? =some u->args[j]? =some v->Value.okWide prog b .any D u v:=r;have F:=s;obtain⟨G,q,w,hV,rfl,V,W⟩:=s;have x:DataW.TrodAll enc prog b 0 (λ_=>true) true f3.params.toList args.toList p G:=w;rw[params3] at x d c;obtain⟨f,Y,d0,Z,H,q0,ad,rfl,rfl,g,I⟩:=trodAll_cons x;obtain⟨i,ae,d1,af,J,q1,rfl,rfl,rfl,k,K⟩:=trodAll_cons I;obtain⟨rfl,rfl,rfl⟩:=trodAll_nil K;obtain rfl:args=#[f,i]:=by cases args;simp_all
 obtain⟨rfl,rfl⟩:=trodVars_none hV;have L:∀l∈H,l.block<b.heap.size:=by obtain⟨m,n⟩:=g;exact DataW.trod_lt m _ _ _ n
 obtain⟨M,N⟩:=LR (d 0 22 f rfl rfl) g (xR (j:=0) c rfl rfl);have O:∀l∈J,l.block<b.heap.size:=by obtain⟨m,n⟩:=k;exact DataW.trod_lt m _ _ _ n
 obtain⟨P,Q⟩:=Hq (d 1 23 i rfl rfl) k (xR (j:=1) c rfl rfl);clear w r;refine(y f i M P b N Q).mono λe W' ⟨R,S⟩=> ?_;have o:=S.below;subst R;exact⟨_,rfl,_,_,_,[],_,[],F,trodAll_mk1 (shut_bool underlying4 _),(trodAll_cons_mk (Below.trod Hy (by kernel_rfl) (xL (by kernel_rfl)) g o L) (trodAll_cons_mk (Below.trod Hy (by kernel_rfl) (xL (by kernel_rfl)) k o O) trodAll_mk0)),rfl,o.frame _,λh=>by cases h⟩
theorem Ht:joinedFacts prog 3 f3 Rows.topOnceSpec Rows.topOnceRow=true:=by
 simp only[joinedFacts,pC];repeat' apply And.intro
 all_goals (as_aux_lemma=>kernel_rfl)
theorem PY(a:xE):Rows.topOnceRow.holds Tryz.pinned (OpenSpec.ofChange Rows.topOnceSpec):=
 OpenClaim.holds_of_wide 3 f3 rfl rfl rfl rfl rfl rfl rfl ⟨rfl,rfl,rfl,rfl,rfl⟩ rfl rfl rfl rfl rfl (by as_aux_lemma=>kernel_rfl) func3 Ht
  (xL (by as_aux_lemma=>kernel_rfl)) (by as_aux_lemma=>unfold Func.isWrapper;first|(rw[fW (by decide+kernel)];kernel_rfl)|(rw[fG (by decide+kernel)];exact⟨rfl,rfl⟩))
  (λb c d f _=>Hr a b c d f)
theorem PZ(c:xE):Rows.TopOnceCardSaid:=
 Claim7.holds_tied_plain_at .later [] [.data,.pinned] true (true, "10a69eb64c98ea0a4da16b9d22924bebc5e51deb804f7a0782185478913d9015") true (PY c) (λ_ h=>by cases h) (by as_aux_lemma=>kernel_rfl) (λ_ h=>by cases h) topOnce_row_tie rfl ⟨rfl,rfl⟩ (by as_aux_lemma=>kernel_rfl) rfl
  (λd f g i=>by
    obtain rfl:d=3:=mj ((show prog.funcNamed f3.name=some 3 by as_aux_lemma=>kernel_rfl).symm.trans g) |>.symm;obtain rfl:f=f3:=(mj (func3.symm.trans i)).symm;exact⟨by as_aux_lemma=>kernel_rfl,λm a b=>by
     rw[params3] at b;have j:a∈[22,23]:=by simpa using Array.mem_of_getElem? b
     have k:([22,23].all λl=> !prog.wantsStandIn l)=true:=by as_aux_lemma=>kernel_rfl
     exact(show prog.wantsStandIn a=false by simpa using xK.1 k a j)⟩)
  (by as_aux_lemma=>kernel_rfl)
end
