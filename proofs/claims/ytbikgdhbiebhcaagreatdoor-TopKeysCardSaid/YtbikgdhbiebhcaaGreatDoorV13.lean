/- Part 13. -/
import Derived.Test.YtbikgdhbiebhcaaGreatDoorV12
set_option linter.unusedVariables false
set_option linter.unusedSimpArgs false
set_option maxRecDepth 100000
set_option maxHeartbeats 2000000
open Go.Value renaming int -> V, string -> U, slice -> Y, pointer -> Z, func -> φ, agg -> γ, bool -> β
open Go.IntKind renaming i64 -> I
open Option renaming some -> W, none -> O
open Go.Obj renaming cells -> J
open Go.Ending renaming returned -> ρ
open Go.Proofs.Tryz renaming prog -> π
open Nat renaming le_refl -> η
open And renaming intro -> θ
open Go.RowKit.Below renaming refl -> ζ
namespace Go.Proofs.YtbikgdhbiebhcaaGreatDoor
open Go.RowKit Tryz
section
attribute [local go_sem] ak
attribute [local go_sem] Oper.semAt_some
def LdP(d:List Ln.Line)(t:Tp.Tree)(g:List Tp.Nd):Nat->Value->NS->World->Prop
 |0,_,_,_=>True
 |1,x,G,a=>∃v,x=.iface 101 v/\Row a G d.length v (ye d)
 |2,x,G,a=>∃b:List Value,x=.iface 78 (γ b.toArray)/\xS a G t b
 |3,x,G,a=>∃c,x=.iface 54 (γ #[V I 0,c])/\yc a G g c
 |_+4,_,_,_=>False
theorem LdP.far{i:List Ln.Line}{t:Tp.Tree}{g:List Tp.Nd}(n:Nat)(x:Value)(b:NS)(e f:World)(D:NS)(j:LdP i t g n x b e)(c:Far D e f)(d:∀k,b k->¬D k):LdP i t g n x b f:=by
 match n,j with
 |0,_=>trivial
 |1,⟨v,h1,h2⟩=>exact⟨v,h1,h2.far c (λk a _=>d k a)⟩
 |2,⟨v,h1,h2⟩=>exact⟨v,h1,xS.far c (λk a _=>d k a) _ _ h2⟩
 |3,⟨v,h1,h2⟩=>exact⟨v,h1,h2.far c (λk a _=>d k a)⟩
structure At(s:ByteArray)(ls:List Ln.Line)(es:List Tp.En)(t:Tp.Tree)(g:List Tp.Nd):Prop where
 size:s.size<=1000000
 split:(Ln.split s.data.toList).2.2=0
 lines:(Ln.split s.data.toList).1=ls
 few:ls.length<=10000
 ind:∀x∈ls,0<=x.ind/\x.ind<=8000
 txt:∀x∈ls,x.s.length<=100000/\Ln.right x.s=true/\Ln.plainB x.s=true
 ents:Tp.ents ls=W es
 ens:∀x∈es,(∀t∈x.l,zf t)/\x.l.length<=100000
 tree:Tp.bread es=W t
 good:zb t
 graph:Tp.graph t=W g
 names:(yv t).Nodup
 deep:Tp.depth t<=900
theorem At.step{s:ByteArray}{j:List Ln.Line}{r:List Tp.En}{t:Tp.Tree}{g:List Tp.Nd}(a:At s j r t g)(n:Nat)(y:n < 3)(x:Value)(l:NS)(b:World)(w:LdP j t g n x l b)(o:Glob b)(p:∀k,l k->k < b.heap.size):
 Calls π (33+n) #[γ #[U s],x] b λe w'=>(∃q,e=ρ (.tuple #[q,.nilIface])/\LdP j t g (n+1) q (λk=>b.heap.size<=k/\k < w'.heap.size) w')/\Below b.heap.size b w':=by
 match n,y,w with
 |0,_,_=>
  refine(mz s a.size a.split x b o).mono ?_;rintro e w' ⟨⟨v,rfl,c⟩,f⟩;rw[a.lines]at c;exact⟨⟨_,rfl,v,rfl,(az c).mono (λk i d=>⟨i,d⟩)⟩,f⟩
 |1,_,⟨v,hx,c⟩=>
  subst hx;refine(nX (U s) .nilIface j r t v l b c p a.few a.ind a.txt a.ents a.ens a.tree o).mono ?_;rintro e w' ⟨⟨m,rfl,c⟩,f⟩;exact⟨⟨_,rfl,m,rfl,xS.mono (λk i d=>⟨i,d⟩) _ _ c⟩,f⟩
 |2,_,⟨m,hx,hT⟩=>
  subst hx;refine(mJ (U s) .nilIface t m l g b hT a.good o p a.graph a.names a.deep).mono ?_;rintro e w' ⟨⟨u,rfl,c⟩,f⟩;exact⟨⟨_,rfl,u,rfl,c.mono (λk i d=>⟨i,d⟩)⟩,f⟩
theorem lO(b:Value)(d:Option Addr)(a c:Nat)(w:World):Calls π 51 #[γ #[b],Y d a c] w λe w'=>e=ρ (φ (.func 69) #[] #[Z (W ⟨w.heap.size+1,0,O⟩)])/\w'=(w.alloc (J #[b] 75)).alloc (J #[Y d a c] 97):=by
 go_enter func51,ntmps51
 go_wp2
 go_ret
 exact⟨rfl,rfl⟩
theorem ud(args:Array Value)(w:World):(callFunc 69 args).run π w=.ok (.enter 69 args) w:=by kernel_rfl
theorem uh(args:Array Value)(w:World):(callFunc 33 args).run π w=.ok (.enter 33 args) w:=by kernel_rfl
theorem ug(args:Array Value)(w:World):(callFunc 34 args).run π w=.ok (.enter 34 args) w:=by kernel_rfl
theorem uf(args:Array Value)(w:World):(callFunc 35 args).run π w=.ok (.enter 35 args) w:=by kernel_rfl
theorem ua(n:Nat)(a:n < 3)(args:Array Value)(w:World):(callFunc (33+n) args).run π w=.ok (.enter (33+n) args) w:=by
 match n,a with
 |0,_=>exact uh args w
 |1,_=>exact ug args w
 |2,_=>exact uf args w
theorem la1(v:Value)(a:World):(Instr.typeAssert (.iface 101 v) 20 78 true).run π a=.ok (.tuple #[γ #[V I 0,U ⟨#[]⟩,V I 0,V I 0,U ⟨#[]⟩,Y O 0 0,Y O 0 0],β false]) a:=by kernel_rfl
theorem la2(v:Value)(a:World):(Instr.typeAssert (.iface 101 v) 20 54 true).run π a=.ok (.tuple #[γ #[V I 0,Y O 0 0],β false]) a:=by kernel_rfl
theorem la3(v:Value)(a:World):(Instr.typeAssert (.iface 78 v) 20 78 true).run π a=.ok (.tuple #[v,β true]) a:=by kernel_rfl
theorem la4(v:Value)(a:World):(Instr.typeAssert (.iface 54 v) 20 78 true).run π a=.ok (.tuple #[γ #[V I 0,U ⟨#[]⟩,V I 0,V I 0,U ⟨#[]⟩,Y O 0 0,Y O 0 0],β false]) a:=by kernel_rfl
theorem la5(v:Value)(a:World):(Instr.typeAssert (.iface 54 v) 20 54 true).run π a=.ok (.tuple #[v,β true]) a:=by kernel_rfl
theorem mg{g:Func}{a f d:Tmp}(s:g.results=#[.cell a 78,.cell f 54,.cell d 41])(b:World)(q p o:Nat)(xs e:Array Value)(z:Value)(c:Array Value)(A:b.heap[q]? =W (J xs 78 (0,0)))(y:xs.size=7)(m:b.heap[p]? =W (J e 54 (0,0)))(u:e.size=2)(r:b.cell? ⟨o,0,O⟩=W z)(j:c.getD a undef=Z (W ⟨q,0,O⟩))(w:c.getD f undef=Z (W ⟨p,0,O⟩))(l:c.getD d undef=Z (W ⟨o,0,O⟩)):
 (results g c).run π b=.ok (.tuple #[γ xs,γ e,z]) b:=by
 have n:c[a]?.getD undef=Z (W ⟨q,0,O⟩):=by simpa using j
 have x:c[f]?.getD undef=Z (W ⟨p,0,O⟩):=by simpa using w
 have i:c[d]?.getD undef=Z (W ⟨o,0,O⟩):=by simpa using l
 have t:=run_loadVar_row (P:=π) b q 78 78 xs (0,0) _ A underlying78 rfl (by rw[y];exact gS);have k:=run_loadVar_row (P:=π) b p 54 54 e (0,0) _ m underlying54 rfl (by rw[u];kernel_rfl);have v:(loadVar 41 ⟨o,0,O⟩).run π b=.ok z b:=by simp[r,go_sem]
 simp[results,s,asAddr,n,x,i,t,k,v,Sem.run_bind,Result.andThen]
structure LdI(w:World)(b:Nat)(g:List Tp.Nd)(t:Nat)(F:NS)(W:World):Prop where
 tr:∃zk zS zx zn zT za1 zn1 zp1 za2 zn2 zp2,W.heap[b+1]? =some (J #[V I zk,U zS,V I zx,V I zn,U zT,Y za1 zn1 zp1,Y za2 zn2 zp2] 78 (0,0))
 gr:∃ra rn rc,W.heap[b+2]? =some (J #[V I 0,Y ra rn rc] 54 (0,0))/\(t=3->∃KG:NS,yc W KG g (Y ra rn rc)/\∀k,KG k->F k/\b+6<=k)
 er:W.heap[b+3]? =some (J #[.nilIface] 41 (0,0))
 own:F (b+1)/\F (b+2)/\F (b+3)
 low:∀k,F k->(b+1<=k/\k<=b+3)\/b+8<=k
 bel:Below b w W
theorem LdI.far{w:World}{b:Nat}{g:List Tp.Nd}{t:Nat}{i:NS}{f j:World}(d:LdI w b g t i f)(a:Far (y8 xO i (b+6)) f j)(q:w.heap.size<=b+6/\b<=f.heap.size):LdI w b g t i j:=by
 obtain⟨⟨P,E,A,H,R,C,n,D,z,L,y,v⟩,⟨o,p,M,m,F⟩,s,c,G,x⟩:=d;refine⟨⟨P,E,A,H,R,C,n,D,z,L,y,a.heap v (λe=>e.1 c.1)⟩,⟨o,p,M,a.heap m (λe=>e.1 c.2.1),λe=>?_⟩,a.heap s (λe=>e.1 c.2.2),c,G,x.trans (a.to_below q.2 (λk _ e=>?_))⟩
 ·obtain⟨N,u,l⟩:=F e
  exact⟨N,u.far a (λk r _ e=>e.1 (l k r).1),l⟩
 ·rcases e.2 with d|d
  ·exact d.elim
  ·omega
theorem sN(s:ByteArray)(ei:List Ln.Line)(f8:List Tp.En)(t:Tp.Tree)(g:List Tp.Nd)(b:At s ei f8 t g)(y:Nat)(T:TypeId)(w:World)(S:Glob w)(cT:w.heap[y]? =W (J #[φ (.func 33) #[γ #[(U s)]] #[],φ (.func 34) #[γ #[(U s)]] #[],φ (.func 35) #[γ #[(U s)]] #[]] T (0,0))):
 Calls π 32 #[γ #[U s],Y (W ⟨y,0,O⟩) 3 3] w λe w'=>(∃a3 an ad a5 a9 a1 av a2 a0 a6 ac e2,e=ρ (.tuple #[γ #[V I a3,U an,V I ad,V I a5,U a9,Y a1 av a2,Y a0 a6 ac],γ #[V I 0,e2],.nilIface])/\yc w' (New w) g e2)/\Below w.heap.size w w':=by
 obtain⟨a,C⟩:∃a,w.heap.size=a:=⟨_,rfl⟩;obtain⟨d,gZ⟩:∃d,Value.string s=d:=⟨_,rfl⟩;have di:=λn bq x A c=>b.step n bq x A c;rw[gZ]at cT di ⊢;have gj:10<=a:=by rw[<-C];exact S.1
 have f:Far xO w ((((w.alloc (J #[d] 75)).alloc (J #[V I 0,U ⟨#[]⟩,V I 0,V I 0,U ⟨#[]⟩,Y O 0 0,Y O 0 0] 78)).alloc (J #[V I 0,Y O 0 0] 54)).alloc (J #[.nilIface] 41)):=((((ξ _ w).alloc _).alloc _).alloc _).alloc _;have dp:((((w.alloc (J #[d] 75)).alloc (J #[V I 0,U ⟨#[]⟩,V I 0,V I 0,U ⟨#[]⟩,Y O 0 0,Y O 0 0] 78)).alloc (J #[V I 0,Y O 0 0] 54)).alloc (J #[.nilIface] 41)).heap[a]? =W (J #[d] 75 (0,0)):=by rw[<-C];exact aa _ (aa _ (aa _ (af w _)))
 have E:((((w.alloc (J #[d] 75)).alloc (J #[V I 0,U ⟨#[]⟩,V I 0,V I 0,U ⟨#[]⟩,Y O 0 0,Y O 0 0] 78)).alloc (J #[V I 0,Y O 0 0] 54)).alloc (J #[.nilIface] 41)).heap[a+1]? =W (J #[V I 0,U ⟨#[]⟩,V I 0,V I 0,U ⟨#[]⟩,Y O 0 0,Y O 0 0] 78 (0,0)):=aa _ (aa _ (ah _ _ _ (by simp[C])));have G:((((w.alloc (J #[d] 75)).alloc (J #[V I 0,U ⟨#[]⟩,V I 0,V I 0,U ⟨#[]⟩,Y O 0 0,Y O 0 0] 78)).alloc (J #[V I 0,Y O 0 0] 54)).alloc (J #[.nilIface] 41)).heap[a+2]? =W (J #[V I 0,Y O 0 0] 54 (0,0)):=aa _ (ah _ _ _ (by simp[C]));have fS:((((w.alloc (J #[d] 75)).alloc (J #[V I 0,U ⟨#[]⟩,V I 0,V I 0,U ⟨#[]⟩,Y O 0 0,Y O 0 0] 78)).alloc (J #[V I 0,Y O 0 0] 54)).alloc (J #[.nilIface] 41)).heap[a+3]? =W (J #[.nilIface] 41 (0,0)):=ah _ _ _ (by simp[C]);have P:((((w.alloc (J #[d] 75)).alloc (J #[V I 0,U ⟨#[]⟩,V I 0,V I 0,U ⟨#[]⟩,Y O 0 0,Y O 0 0] 78)).alloc (J #[V I 0,Y O 0 0] 54)).alloc (J #[.nilIface] 41)).heap.size=a+4:=by simp[C]
 have f6:=zF dp 0 rfl;have es:=f.heap cT id;have hd:y < a:=C ▸ lt_of_heap cT;refine callsIn_wide.1 (callsIn_of_wp_marks (n:=5) func32 rfl trivial (wpIn_wide.2 ?_));simp only[ntmps32,List.size_toArray,zO,List.length_nil,Nat.reduceAdd,Nat.reduceSub,Array.replicate_succ,Array.replicate_zero,List.push_toArray,List.append_toArray,List.nil_append,List.cons_append];obtain⟨N,fw,e0,dW,ek,g0⟩:=zx6 C f E G fS di;obtain⟨dJ,gc⟩:=zx2 es S;clear f dp E G fS di es S cT b
 go_upto_region 1 with (fail)
 generalize ((((w.alloc (J #[d] 75)).alloc (J #[V I 0,U ⟨#[]⟩,V I 0,V I 0,U ⟨#[]⟩,Y O 0 0,Y O 0 0] 78)).alloc (J #[V I 0,Y O 0 0] 54)).alloc (J #[.nilIface] 41))=F at *;clear C
 go_wp2_with fail
 refine(lO d _ 3 3 _).mono ?_;rintro e g7 ⟨rfl,rfl⟩;rw[P];have be:Far xO F ((F.alloc (J #[d] 75)).alloc (J #[Y (W ⟨y,0,O⟩) 3 3] 97)):=((ξ _ F).alloc _).alloc _;have d3:((F.alloc (J #[d] 75)).alloc (J #[Y (W ⟨y,0,O⟩) 3 3] 97)).heap.size=a+6:=by simp[P]
 have ej:((F.alloc (J #[d] 75)).alloc (J #[Y (W ⟨y,0,O⟩) 3 3] 97)).heap[a+4+1]? =W (J #[Y (W ⟨y,0,O⟩) 3 3] 97 (0,0)):=ah _ _ _ (by simp[P]);have el:=n9 (λ_=>.nilIface) Glob (λ_ _=>rfl) (.inl rfl) (γ #[d]) (λn=>33+n) (LdP ei t g) (a+4+1) y ((F.alloc (J #[d] 75)).alloc (J #[Y (W ⟨y,0,O⟩) 3 3] 97)) ej T (be.heap dJ.out id) (λn bq=>ua n bq) (λ_=>trivial) (λn x A c cv D b ck f0=>LdP.far n x A c cv D b ck f0) (λn bq x A c b4 f4 gd=>g0.out n bq x A c b4 f4 gd);have e5:Below a w ((F.alloc (J #[d] 75)).alloc (J #[Y (W ⟨y,0,O⟩) 3 3] 97)):=(fw.out.trans be).to_below (by rw[N.out];exact η _) (λ_ _ e=>e.elim);have fu:LdI w a g 0 (λk=>a+1<=k/\k<=a+3) ((F.alloc (J #[d] 75)).alloc (J #[Y (W ⟨y,0,O⟩) 3 3] 97)):=⟨⟨_,_,_,_,_,_,_,_,_,_,_,be.heap e0.out id⟩,⟨_,_,_,be.heap dW.out id,λe=>by omega⟩,be.heap ek.out id,⟨by omega,by omega,by omega⟩,λk b=>.inl b,e5⟩;obtain⟨eq,fL,bD⟩:=zx3 el fu d3;clear be d3 ej el e5 fu e0 dW ek fw dJ f6;generalize ((F.alloc (J #[d] 75)).alloc (J #[Y (W ⟨y,0,O⟩) 3 3] 97))=hm at *;clear P
 go_wp2_with fail
 refine wpIn_wide.1 (aC (n:=5) (gf:=69) (lb:=#[Z (W ⟨a+4+1,0,O⟩)]) rfl (λargs wx=>ud args wx)
  eq.out (λk e=>e.elim) (λk e=>by have:=bD.out;rcases e with e|e<;>omega) (λt v A c b=>by obtain⟨x,rfl,_⟩:=b;rfl)
  (LdI w a g) (λ_ _ _=>False) (λk=>a+1<=k/\k<=a+3) (λk b=>by have:=bD.out;exact⟨λe=>e,λe=>by rcases e with e|e<;>omega,by omega,by omega,λ_=>by omega⟩) fL.out ?hI (λ_ _ _ _ b _=>b) (λt L c b=>gc.out.keep b.bel gj) (λ_ _ _ _=>trivial) ?round ?done (λ_ _ _ b=>b.elim))
 case hI=>
  intro g1 L c cv b ck;rw[bD.out]at ck;exact b.far ck ⟨by rw[N.out];omega,by have:=b.bel.size;rw[N.out]at this;exact this⟩
 case round=>
  rintro n L A v c K bq f3 hI ⟨x,rfl,b4,fT⟩ S a4 r;have fs:=bD.out;rw[fs]at f3 a4 S fT
  gi_wp2
  refine r _ _ (ξ _ _) ?_;intro o ab _ _;rw[fs]at ab;obtain⟨⟨a3,an,ad,a5,a9,a1,av,a2,a0,a6,ac,bm⟩,⟨j,X,i,bk,R⟩,bR,ch,b5,bn⟩:=hI;have ds:=ab.size;have fE:=ab.heap bm (by omega);have fz:=ab.heap bk (by omega);have e7:=ab.heap bR (by omega);have d0:=bn.trans (ab.to_below (B:=a) (by omega) (λk _ e=>by omega));have gr:n=0\/n=1\/n=2:=by omega
  obtain⟨H,b6,dn,dl,dj,df⟩:=zx6 ch b5 fE fz e7 d0;obtain⟨b2,b0⟩:=zx2 a4 S;clear bm bk bR bn ch b5 r a4 S fE fz e7 d0;rcases gr with rfl|rfl|rfl
  ·obtain⟨v,rfl,gg⟩:=b4
   have dC:=la1 v;have f7:=la2 v;clear gg R
   gi_wp2
   refine⟨L,⟨⟨_,_,_,_,_,_,_,_,_,_,_,dn.out⟩,⟨_,_,_,dl.out,λe=>by omega⟩,dj.out,H.out,b6.out,df.out⟩,ξ _ _,λk b=>⟨.inl b,λ_=>by have:=(b2.out k b).2.2 trivial;omega⟩⟩
  ·obtain⟨g2,rfl,en⟩:=b4
   obtain⟨co,cb,c2,c6,c1,c0,ca,ct,b9,cf,b8,rfl⟩:=en.form;have dC:=la3 (γ #[V I co,U cb,V I c2,V I c6,U c1,Y c0 ca ct,Y b9 cf b8]);have f:Far xO o (o.alloc (J #[V I co,U cb,V I c2,V I c6,U c1,Y c0 ca ct,Y b9 cf b8] 78)):=(ξ _ o).alloc _;have E:=f.heap dn.out id;have G:=f.heap dl.out id;have b1:=f.heap dj.out id;obtain⟨_,_,_,_,_,_,_,fn,eg,gk,dA,gQ,gM,gN⟩:=bd E;obtain⟨M,m⟩:=aG E (V I co) (U cb) (V I c2) (V I c6) (U c1) (Y c0 ca ct) (Y b9 cf b8);have dr:=m.heap G (by omega);have bx:=m.heap b1 (by omega);have ao:Below a o (o.alloc (J #[V I co,U cb,V I c2,V I c6,U c1,Y c0 ca ct,Y b9 cf b8] 78)):=f.to_below (by omega) (λ_ _ e=>e.elim);have b3:=(df.out.trans ao).trans (m.to_below (B:=a) (by have:=ao.size;omega) (λk _ e=>by omega));have bs:Far L o _:=(f.mono (λ_ _ e=>e.elim)).step m (λk _ (e:k=a+1)=>by rw[e];exact H.out.1);have u:=zD (θ M (θ dr (θ bx (θ b3 bs))));clear en R G b1 M m dr bx ao b3 bs f E
   gi_wp2
   refine⟨L,⟨⟨_,_,_,_,_,_,_,_,_,_,_,u.out.1⟩,⟨_,_,_,u.out.2.1,λe=>by omega⟩,u.out.2.2.1,H.out,b6.out,u.out.2.2.2.1⟩,u.out.2.2.2.2,λk b=>⟨.inl b,λ_=>by have:=(b2.out k b).2.2 trivial;have:=u.out.2.2.2.2.size;omega⟩⟩
  ·obtain⟨g6,rfl,dc⟩:=b4
   obtain⟨j,i,rfl,_⟩:=dc.form;generalize g.length=z at *;have dC:=la4 (γ #[V I 0,Y j z i]);have f7:=la5 (γ #[V I 0,Y j z i]);have f:Far xO o (o.alloc (J #[V I 0,Y j z i] 54)):=(ξ _ o).alloc _;have E:=f.heap dn.out id;have G:=f.heap dl.out id;have b1:=f.heap dj.out id;obtain⟨_,_,fn,eg⟩:=bO G;have M:(((o.alloc (J #[V I 0,Y j z i] 54)).setCell ⟨a+2,0,O⟩ (V I 0)).setCell ⟨a+2,1,O⟩ (Y j z i)).heap[a+2]? =W (J #[V I 0,Y j z i] 54 (0,0)):=ai (ai G 0 _) 1 _;have m:Far (·=a+2) (o.alloc (J #[V I 0,Y j z i] 54)) (((o.alloc (J #[V I 0,Y j z i] 54)).setCell ⟨a+2,0,O⟩ (V I 0)).setCell ⟨a+2,1,O⟩ (Y j z i)):=Far.setCell (D:=(·=a+2)) (Far.setCell (D:=(·=a+2)) (ξ _ _) (p:=⟨a+2,0,O⟩) (λ_=>rfl) _) (p:=⟨a+2,1,O⟩) (λ_=>rfl) _;have fX:=m.heap E (by omega);have bx:=m.heap b1 (by omega);have ao:Below a o (o.alloc (J #[V I 0,Y j z i] 54)):=f.to_below (by omega) (λ_ _ e=>e.elim);have b3:=(df.out.trans ao).trans (m.to_below (B:=a) (by have:=ao.size;omega) (λk _ e=>by omega));have bs:Far L o _:=(f.mono (λ_ _ e=>e.elim)).step m (λk _ (e:k=a+2)=>by rw[e];exact H.out.2.1);have e1:=((dc.far ab (λk l _ e=>(b0.out k l).2.2.1 e)).far f (λ_ _ _ e=>e)).far m (λk l _ e=>(b0.out k l).1 (by rw[show k=a+2 from e];exact H.out.2.1));have d5:∀k,A k->a+8<=k:=λk l=>by have bm:=fT k l;have bk:=(b0.out k l).2.1;have R:=(b0.out k l).2.2.1;omega
   have u:=zD (θ fX (θ M (θ bx (θ b3 (θ bs (θ e1 d5))))));clear dc R G b1 M m fX bx ao b3 bs f E e1 d5
   gi_wp2
   obtain⟨gJ,gl,f1,gO,e6,f5,d6⟩:=u.out;refine⟨λk=>L k\/A k,⟨⟨_,_,_,_,_,_,_,_,_,_,_,gJ⟩,⟨_,_,_,gl,λ_=>⟨A,f5,λk l=>⟨.inr l,by have:=d6 k l;omega⟩⟩⟩,f1,⟨.inl H.out.1,.inl H.out.2.1,.inl H.out.2.2⟩,λk b=>?_,gO⟩,e6,λk b=>⟨?_,λ_=>?_⟩⟩
   ·rcases b with b|b
    ·exact b6.out k b
    ·exact .inr (d6 k b)
   ·rcases b with b|b
    ·exact .inl b
    ·exact .inr (.inl b)
   ·have P:=e6.size
    rcases b with b|b
    ·exact zK ((b2.out k b).2.2 trivial) (Nat.le_trans ds P)
    ·exact zK ((b0.out k b).2.2.2) (Nat.le_trans ds P)
 case done=>
  rintro L c hI _ r a4;rw[bD.out]at r a4 ⊢;obtain⟨⟨a3,an,ad,a5,a9,a1,av,a2,a0,a6,ac,bm⟩,⟨j,X,i,bk,R⟩,bR,ch,b5,bn⟩:=hI;obtain⟨hj,fG,dv⟩:=R rfl;have cc:Far xO c c.drew:=(ξ _ c).drew;have e4:=zD (cc.heap r id);have u:=zD (θ (fG.far cc (λ_ _ _ e=>e)) dv);have b2:=zD a4;have dg:=zD (bn.trans (cc.to_below (B:=a) (by have:=bn.size;rw[N.out]at this;exact this) (λ_ _ e=>e.elim)));have b6:=zD b5;have ba:(λc=>c.heap[a+1]? =W (J #[V I a3,U an,V I ad,V I a5,U a9,Y a1 av a2,Y a0 a6 ac] 78 (0,0))/\c.heap[a+2]? =W (J #[V I 0,Y j X i] 54 (0,0))/\c.heap[a+3]? =W (J #[.nilIface] 41 (0,0))) c.drew:=⟨bm,bk,bR⟩;clear r fG dv a4 bm bk R bR ch b5 bn cc fL eq
  go_upto_region 13 with (fail)
  refine wp_region_noPanic ?_;refine ar (λc=>c.heap[a+1]? =W (J #[V I a3,U an,V I ad,V I a5,U a9,Y a1 av a2,Y a0 a6 ac] 78 (0,0))/\c.heap[a+2]? =W (J #[V I 0,Y j X i] 54 (0,0))/\c.heap[a+3]? =W (J #[.nilIface] 41 (0,0))) [] (by kernel_rfl) ?_;generalize c.drew=f2 at *;refine ay 10 (by kernel_rfl) (λ_ _ _ _ b=>b) ba 3 [0,1] _ _ (by kernel_rfl) ?_;iterate 2 (refine ax (v:=?_) ?_ ?_;rotate_left;·(intro hb fR;(try dsimp only at fR);obtain⟨ex,ef,fY⟩:=fR;obtain⟨hk,ha,g3,c3,c4,c5,hc,_⟩:=bd ex;obtain⟨g4,g8,_⟩:=bO ef;clear ex ef fY;go_simp;try with_reducible rfl);(try go_frame))
  refine xT.done ?_;try dsimp only
  obtain⟨ge,ga,hh,hl,hg,hf,hn,fn,eg,gk,dA,gQ,gM,gN⟩:=bd ba.1;obtain⟨M,m⟩:=aG ba.1 (V I a3) (U an) (V I ad) (V I a5) (U a9) (Y a1 av a2) (Y a0 a6 ac);have e3:=m.heap ba.2.1 (by omega);have fr:=m.heap ba.2.2 (by omega);have bb:=zD (θ M (θ e3 fr));have e9:=zD m;clear M m e3 fr;refine aq [2] ?_;refine aj rfl (λK r=>?_) xQ.nil
  go_simp
  refine r.out _ _ (λ_=>bb.out) ?_;clear r K
  (try go_frame)
  generalize (((((((f2.setCell ⟨a+1,0,O⟩ (V I a3)).setCell ⟨a+1,1,O⟩ (U an)).setCell ⟨a+1,2,O⟩ (V I ad)).setCell ⟨a+1,3,O⟩ (V I a5)).setCell ⟨a+1,4,O⟩ (U a9)).setCell ⟨a+1,5,O⟩ (Y a1 av a2)).setCell ⟨a+1,6,O⟩ (Y a0 a6 ac))=cl at *;obtain⟨ge,ga,g5,hi⟩:=bO bb.out.2.1;have d2:((cl.setCell ⟨a+2,0,O⟩ (V I 0)).setCell ⟨a+2,1,O⟩ (Y j X i)).heap[a+2]? =W (J #[V I 0,Y j X i] 54 (0,0)):=ai (ai bb.out.2.1 0 _) 1 _;have cS:Far (·=a+2) cl ((cl.setCell ⟨a+2,0,O⟩ (V I 0)).setCell ⟨a+2,1,O⟩ (Y j X i)):=Far.setCell (D:=(·=a+2)) (Far.setCell (D:=(·=a+2)) (ξ _ _) (p:=⟨a+2,0,O⟩) (λ_=>rfl) _) (p:=⟨a+2,1,O⟩) (λ_=>rfl) _;have eM:=cS.heap bb.out.1 (by omega);have d1:=cS.heap bb.out.2.2 (by omega);have al:=zD (θ eM (θ d2 d1));have fc:=zD cS;clear d2 cS eM d1;refine aq [3] ?_;refine aj rfl (λK r=>?_) xQ.nil
  go_simp
  refine r.out _ _ (λ_=>al.out) ?_;clear r K
  (try go_frame)
  generalize ((cl.setCell ⟨a+1+1,0,O⟩ (V I 0)).setCell ⟨a+1+1,1,O⟩ (Y j X i))=dm at *;have he:=zF al.out.2.2 0 rfl;have dA:=ag al.out.2.2 0;have ft:(dm.setCell ⟨a+3,0,O⟩ .nilIface).heap[a+3]? =W (J #[.nilIface] 41 (0,0)):=ai al.out.2.2 0 _;have cm:Far (·=a+3) dm (dm.setCell ⟨a+3,0,O⟩ .nilIface):=Far.setCell (D:=(·=a+3)) (ξ _ _) (p:=⟨a+3,0,O⟩) (λ_=>rfl) _;have e8:=cm.heap al.out.1 (by omega);have fl:=cm.heap al.out.2.1 (by omega);have c9:=zD (θ e8 (θ fl ft));have er:=zD cm;clear ft cm e8 fl;refine aq [4] ?_;refine aj rfl (λK r=>?_) xQ.nil
  go_simp
  refine r.out _ _ (λ_=>c9.out) ?_;clear r K
  (try go_frame)
  refine aP (by kernel_rfl) (NoPanic.normal ?_) _;have da:=((e9.out.mono (D':=λk=>a+1<=k/\k<=a+3) (λk _ e=>by have:k=a+1:=e;omega)).trans (fc.out.mono (D':=λk=>a+1<=k/\k<=a+3) (λk _ e=>by have:k=a+2:=e;omega))).trans (er.out.mono (D':=λk=>a+1<=k/\k<=a+3) (λk _ e=>by have:k=a+3:=e;omega));have d4:=dg.out.trans (da.to_below (B:=a) (by have:=dg.out.size;rw[N.out]at this;exact this) (λk _ e=>by omega));have ep:=u.out.1.far da (λk l _ e=>by have:=(u.out.2 k l).2;omega);have fv:=da.heap e4.out (by omega);have db:=zD (θ d4 (θ ep fv));clear da d4 ep fv e9 fc er bb al e4 dg ba
  go_wp2_with fail
  refine au (q:=a+6) rfl db.out.2.2 ?_;intro cv bw;have gx:=bw.heap c9.out.1 (by omega);have gR:=bw.heap c9.out.2.1 (by omega);have gb:=zF (bw.heap c9.out.2.2 (by omega)) 0 rfl;refine⟨_,mg results32 cv (a+1) (a+2) (a+3) _ _ _ _ gx rfl gR rfl gb rfl rfl rfl,⟨_,_,_,_,_,_,_,_,_,_,_,_,rfl,?_⟩,?_⟩
  ·have f9:=b2.out
   exact(db.out.2.1.far bw (λk l _ (e:k=a+6)=>f9 k (u.out.2 k l).1 e)).mono (λk l _=>by have:=(u.out.2 k l).2;have:=N.out;show w.heap.size<=k;omega)
  ·rw[N.out]
   exact db.out.1.trans (bw.to_below (B:=a) (by have:=db.out.1.size;rw[N.out]at this;exact this) (λk l e=>by omega))
end
section
attribute [local go_sem] ak
theorem ox{f:Func}{a g d:Tmp}(j:f.results=#[.cell a 54,.tmp g,.tmp d])(c:World)(q:Nat)(x e:Value)(b:Array Value)(l:c.heap[q]? =W (J #[x,e] 54 (0,0)))(m:b.getD a undef=Z (W ⟨q,0,O⟩)):
 (results f b).run π c=.ok (.tuple #[γ #[x,e],b.getD g undef,b.getD d undef]) c:=by
 have i:b[a]?.getD undef=Z (W ⟨q,0,O⟩):=by simpa using m
 have k:=run_loadVar_row (P:=π) c q 54 54 #[x,e] (0,0) _ l underlying54 rfl (by kernel_rfl);simp[results,j,asAddr,i,k,Sem.run_bind,Result.andThen]
theorem uv(s:ByteArray)(ad:List Ln.Line)(a9:List Tp.En)(t:Tp.Tree)(g:List Tp.Nd)(h:At s ad a9 t g)(w:World)(ba:Glob w):
 Calls π 18 #[U s] w λe w'=>(∃r,e=ρ (.tuple #[γ #[V I 0,r],V I 0,V I 0])/\yc w' (New w) g r)/\Below w.heap.size w w':=by
 obtain⟨a,i⟩:∃a,w.heap.size=a:=⟨_,rfl⟩;have o:Far xO w (((w.alloc (J #[V I 0,Y O 0 0] 54)).alloc (J #[U s] 75)).alloc (J #[φ (.func 33) #[γ #[(U s)]] #[],φ (.func 34) #[γ #[(U s)]] #[],φ (.func 35) #[γ #[(U s)]] #[]] 81)):=(((ξ _ w).alloc _).alloc _).alloc _;have S:(((w.alloc (J #[V I 0,Y O 0 0] 54)).alloc (J #[U s] 75)).alloc (J #[φ (.func 33) #[γ #[(U s)]] #[],φ (.func 34) #[γ #[(U s)]] #[],φ (.func 35) #[γ #[(U s)]] #[]] 81)).heap[a]? =W (J #[V I 0,Y O 0 0] 54 (0,0)):=by rw[<-i];exact aa _ (aa _ (af w _))
 have bb:(((w.alloc (J #[V I 0,Y O 0 0] 54)).alloc (J #[U s] 75)).alloc (J #[φ (.func 33) #[γ #[(U s)]] #[],φ (.func 34) #[γ #[(U s)]] #[],φ (.func 35) #[γ #[(U s)]] #[]] 81)).heap[a+2]? =W (J #[φ (.func 33) #[γ #[(U s)]] #[],φ (.func 34) #[γ #[(U s)]] #[],φ (.func 35) #[γ #[(U s)]] #[]] 81 (0,0)):=ah _ _ _ (by simp[i]);have bk:=sN s ad a9 t g h (a+2) 81 (((w.alloc (J #[V I 0,Y O 0 0] 54)).alloc (J #[U s] 75)).alloc (J #[φ (.func 33) #[γ #[(U s)]] #[],φ (.func 34) #[γ #[(U s)]] #[],φ (.func 35) #[γ #[(U s)]] #[]] 81)) (ba.far o (λ_ _ e=>e)) bb;have a3:(((w.alloc (J #[V I 0,Y O 0 0] 54)).alloc (J #[U s] 75)).alloc (J #[φ (.func 33) #[γ #[(U s)]] #[],φ (.func 34) #[γ #[(U s)]] #[],φ (.func 35) #[γ #[(U s)]] #[]] 81)).heap.size=a+3:=by simp[i]
 have bq:((w.alloc (J #[V I 0,Y O 0 0] 54)).alloc (J #[U s] 75)).cell? ⟨a+1,0,O⟩=W (U s):=ae (ah _ _ _ (by simp[i])) 0;obtain⟨a1,ab,a5,an⟩:=zx4 bk o S i;clear bk o S bb h ba
 go_enter func18,ntmps18
 go_wp2_with fail
 refine a1.out.mono ?_;rintro e f ⟨⟨L,F,A,H,P,C,u,E,z,M,y,r,rfl,G⟩,n⟩;obtain⟨c,d,rfl,_⟩:=G.form;generalize g.length=b at *;obtain⟨q,bn⟩:∃q,f.heap.size=q:=⟨_,rfl⟩;have m:Far xO f ((f.alloc (J #[V I L,U F,V I A,V I H,U P,Y C u E,Y z M y] 78)).alloc (J #[V I 0,Y c b d] 54)):=((ξ _ f).alloc _).alloc _;have av:((f.alloc (J #[V I L,U F,V I A,V I H,U P,Y C u E,Y z M y] 78)).alloc (J #[V I 0,Y c b d] 54)).heap[q+1]? =W (J #[V I 0,Y c b d] 54 (0,0)):=ah _ _ _ (by simp[bn]);have bm:=n.size;rw[a3]at bm;have ao:=(ab.out.below n).trans m;have T:=(G.far m (λ_ _ _ e=>e)).mono (G':=λk=>a+3<=k) (λk (j:_<=k) _=>by rw[a3]at j;exact j);have al:=m.heap ((Far.of_below n xO).heap a5.out id) id;obtain⟨a2,R,ac,N⟩:=zx4 T av ao al;clear m av ao T al G n a1 ab a5 bq
 go_wp2_with fail
 generalize ((f.alloc (J #[V I L,U F,V I A,V I H,U P,Y C u E,Y z M y] 78)).alloc (J #[V I 0,Y c b d] 54))=bx at *;refine(pR bx).mono ?_;rintro e w5 ⟨rfl,l⟩;have a4:=(l.block _ (lt_of_heap R.out)).trans R.out;have x:=(l.block _ (lt_of_heap N.out)).trans N.out;obtain⟨b1,b2,_⟩:=bO a4;obtain⟨b3,b0,b4,bR⟩:=bO x;have a0:=ac.out.below l;have X:=a2.out.below l;have a6:((w5.setCell ⟨a,0,O⟩ (V I 0)).setCell ⟨a,1,O⟩ (Y c b d)).heap[a]? =W (J #[V I 0,Y c b d] 54 (0,0)):=ai (ai x 0 _) 1 _;have v:Far (·=a) w5 ((w5.setCell ⟨a,0,O⟩ (V I 0)).setCell ⟨a,1,O⟩ (Y c b d)):=Far.setCell (D:=(·=a)) (Far.setCell (D:=(·=a)) (ξ _ _) (p:=⟨a,0,O⟩) (λ_=>rfl) _) (p:=⟨a,1,O⟩) (λ_=>rfl) _;have bw:=zD a6;have bs:=zD ((X.far v (λk j _ (e:k=a)=>by omega)).mono (G':=New w) (λk j _=>by have:=an.out;show w.heap.size<=k;omega));have bD:=zD ((a0.step v (λk j (e:k=a)=>by have:=an.out;omega)).to_below (η _) (λ_ _ e=>e));clear a4 x a0 X a6 v l R N ac a2
 go_wp2_with fail
 exact bodyPost_ret (ox results18 _ _ _ _ _ bw.out rfl) rfl ⟨⟨_,rfl,bs.out⟩,bD.out⟩
theorem d7(s:ByteArray)(q:List Ln.Line)(z:List Tp.En)(t:Tp.Tree)(g i:List Tp.Nd)(x:List Nat)(c:Tp.B)(C:At s q z t g)(r:QOk g x i)(p:zm i c)(w:World)(l:Glob w):
 Calls π 7 #[U s] w λe w'=>e=ρ (.tuple #[xR c,V I 0])/\Below w.heap.size w w':=by
 have v:=uv s q z t g C w l;obtain⟨A,H,X,M⟩:=zx4 v r p l;clear v r p C l;obtain⟨ad,y⟩:∃T,xR c=U T:=⟨_,rfl⟩;rw[y]
 go_enter func7,ntmps7
 go_wp2_with fail
 refine A.out.mono ?_;rintro e b ⟨⟨o,rfl,d⟩,j⟩;have a:Far xO b (b.alloc (J #[V I 0,o] 54)):=(ξ _ b).alloc _;have R:=d.far a (λ_ _ _ e=>e);have m:=j.trans (a.to_below (B:=w.heap.size) j.size (λ_ _ e=>e.elim));have ac:∀k,w.heap.size<=k->True:=λ_ _=>trivial;have n:=sR g i x c o (λk=>w.heap.size<=k/\k < b.heap.size) _ ((d.mono (λk N E=>⟨N,E⟩)).far a (λ_ _ _ e=>e)) (λk L=>zK L.2 a.size) (M.out.step m) H.out X.out;obtain⟨G,S,rfl,_⟩:=d.form;generalize g.length=F at *;obtain⟨al,an,_⟩:=bO (af b (J #[V I 0,Y G F S] 54));rw[y]at n;obtain⟨u,f⟩:=zx2 n m;clear n m R d j a A
 go_wp2_with fail
 refine u.out.mono ?_;rintro e ab ⟨rfl,D⟩;have P:=f.out.trans (D.mono f.out.size);clear D u f
 go_wp2_with fail
 go_ret2
 exact⟨rfl,P⟩
end
section
attribute [local go_sem] ak
def yn(a:Nat):Tp.B:=if a=0 then []else 97::Tp.itoa a
theorem mO(n:Nat)(m:n<=48)(s:ByteArray)(d:s.data.toList=List.replicate 48 32)(w:World):∃cap a,(convert 9 36 (U s)).run π w=.ok (Y (W ⟨w.heap.size,0,O⟩) 48 cap) a/\48<=cap/\Below w.heap.size w a/\∀b,(convert 36 9 (Y (W ⟨w.heap.size,0,O⟩) n b)).run π a=.ok (xR (List.replicate n 32)) a:=by
 have l:s.size=48:=by show s.data.size=48;rw[<-Array.length_toList,d];rfl
 have c:=Lib.run_convert_string_bytes (P:=π) w 9 36 5 s underlying9 underlying36 underlying5;have f:=Lib.bytesWorld_at_new w 5 s;rw[l]at c;refine⟨_,Lib.bytesWorld w 5 s,c,grownCap_ge _ _ _ _,⟨rfl,rfl,rfl,Nat.le_of_lt (lt_of_heap f),λi k=>Lib.bytesWorld_at_old w 5 _ i k⟩,λb=>?_⟩;have e:=run_convert_bytes_back (P:=π) (Lib.bytesWorld w 5 s) 36 9 5 ⟨w.heap.size,0,O⟩ b (List.replicate n 32) underlying36 underlying5 underlying9 (λj g=>by
  rw[List.length_replicate]at g;rw[gK,Lib.bytesWorld_cell w 5 s j (by omega),d];simp only[List.getElem_replicate];rw[zY,List.getElem?_replicate,if_pos (by omega)];rfl)
 rw[List.length_replicate]at e;exact e
theorem ur(n:Nat)(q:n<=48)(w:World):Calls π 180 #[V I (n:Int)] w λe w'=>e=ρ (xR (List.replicate n 32))/\Below w.heap.size w w':=by
 have f:=strings_Repeat_main ⟨#[32]⟩ 48 w (by decide) (by decide) (by decide) (by decide);obtain⟨a,g⟩:∃a,(⟨(Lib.repeatL (⟨#[32]⟩:ByteArray).data.toList 48).toArray⟩:ByteArray)=a:=⟨_,rfl⟩;rw[g]at f;have m:a.data.toList=List.replicate 48 32:=by rw[<-g];decide
 obtain⟨T,j⟩:∃T,xR (List.replicate n 32)=U T:=⟨_,rfl⟩;have b:=λc=>mO n q a m c;rw[j]at b ⊢;have v:(0:Int)<=(n:Int):=by omega
 obtain⟨k,l⟩:=zx2 f b;clear f g j m b
 go_enter func180,ntmps180
 go_wp2_with fail
 refine k.out.mono ?_;rintro e c ⟨rfl,d⟩;obtain⟨cap,u,b,t,o,i⟩:=l.out c;have p:=d.trans (o.mono d.size);have r:(n:Int)<=(cap:Int):=by omega
 have s:n<=cap:=by omega
 have i:=i n;clear d o k l
 go_wp2_with fail
 go_ret
 exact⟨rfl,p⟩
theorem dB(b:UInt8)(l:Tp.B)(T:ByteArray)(a:xR l=U T):xR (b::l)=U ((⟨#[b]⟩:ByteArray)++T):=by
 unfold xR at a ⊢;injection a with a;rw[<-a];exact congrArg Value.string (cV [b] l).symm
theorem dM(a:UInt8)(T:ByteArray):((⟨#[a]⟩:ByteArray)++T).size=T.size+1:=by rw[zX];show 1+T.size=_;omega
theorem ob(g:List Tp.Nd)(v t:Value)(P F:NS)(q:List Nat)(j f i b:Nat)(l:List Nat)(x:Tp.Nd)(w:World)(n:yc w P g v)(s:g[i]? =W x)(d:w.heap[j]? =W (J #[.int I 0,v,t,.map (W f)] 198 (0,0)))(M:Glob w)(k:x.kids≠[])(z:Row w F g.length t (xP q))(u:q[i]? =W b)(C:b=0)(be:b<=1000)(m:(yn b).length<=1000)(y:xW π 3 w f (yo l))(G:i∈l)(ba:f≠j):
 Calls π 132 #[.pointer (W ⟨j,0,O⟩),.int I (i:Int)] w λe w'=>e=ρ (zp (42::yn b))/\Below w.heap.size w w':=by
 obtain⟨kv,ab,c⟩:=n.at s;obtain⟨ac,o,cap,rfl,bm,a2,a5,a6,c3,c4,c5⟩:=c.cells;have bq:=c.lt;have L:=c.le;obtain⟨a4,an,a1,rfl,_,X,bn⟩:=z.nat u;obtain⟨bs,S,rfl,_⟩:=c.kid.form;obtain⟨bk,a0,al,bb,_⟩:=pC d;have bw:(0:Int)<=(i:Int):=by omega
 have R:(i:Int) < (g.length:Int):=by omega
 have a3:¬(x.kids.length:Int)=0:=by cases N:x.kids with
  |nil=>exact absurd N k
  |cons a r=>simp;omega
 unfold maxLen at L;have D:=bW i (by omega);have A:yn b=[]:=by unfold yn;rw[if_pos C]
 rw[A]at m ⊢;have ao:¬(0:Int) < (b:Int):=by omega
 have E:zp [42]=.iface 273 (.string ((⟨#[42]⟩:ByteArray)++⟨#[]⟩)):=by unfold zp;rw[dB 42 [] ⟨#[]⟩ rfl]
 rw[E];have ad:((⟨#[42]⟩:ByteArray)++(⟨#[]⟩:ByteArray)).size<=maxLen:=by rw[dM];unfold maxLen;show 0+1<=_;omega
 have H:=y.look_in bh underlying196 (jA _) (.int I (i:Int)) D false (.bool true) (List.mem_map.2 ⟨i,G,rfl⟩) (λp d _=>by obtain⟨a9,_,rfl⟩:=List.mem_map.1 d;rfl);simp only[Bool.false_eq_true,if_false]at H;generalize g.length=av at *;generalize x.kids.length=T at *;clear n s c k z u d y M m A
 go_enter func132,ntmps132
 go_wp2_with fail
 go_ret
 exact⟨rfl,ζ _ _⟩
theorem oa(g:List Tp.Nd)(v E:Value)(av a3:NS)(P:List Nat)(n m i b:Nat)(u:List Nat)(x:Tp.Nd)(w:World)(N:yc w av g v)(y:g[i]? =W x)(d:w.heap[n]? =W (J #[.int I 0,v,E,.map (W m)] 198 (0,0)))(z:Glob w)(L:x.kids≠[])(G:Row w a3 g.length E (xP P))(A:P[i]? =W b)(a1:¬b=0)(bs:b<=1000)(s:(yn b).length<=1000)(F:xW π 3 w m (yo u))(a4:i∈u)(cl:m≠n):
 Calls π 132 #[.pointer (W ⟨n,0,O⟩),.int I (i:Int)] w λe w'=>e=ρ (zp (42::yn b))/\Below w.heap.size w w':=by
 obtain⟨kv,b2,f⟩:=N.at y;obtain⟨bx,o,cap,rfl,cm,b9,bR,bn,c3,c4,c5⟩:=f.cells;have b0:=f.lt;have S:=f.le;obtain⟨bm,ba,ck,rfl,_,a0,ao⟩:=G.nat A;obtain⟨b8,a9,rfl,_⟩:=f.kid.form;obtain⟨R,ad,a2,X,_⟩:=pC d;have ca:(0:Int)<=(i:Int):=by omega
 have bw:(i:Int) < (g.length:Int):=by omega
 have b5:¬(x.kids.length:Int)=0:=by cases h:x.kids with
  |nil=>exact absurd h L
  |cons a r=>simp;omega
 unfold maxLen at S;have ac:=bW i (by omega);have C:yn b=97::Tp.itoa b:=by unfold yn;rw[if_neg a1]
 rw[C]at s ⊢;have bb:(0:Int) < (b:Int):=by omega
 have l:=dP (b:Int) (by omega) (by omega) w z;obtain⟨q,c⟩:∃T,xR (Tp.itoa b)=.string T:=⟨_,rfl⟩;have a5:=dB 97 _ _ c;have bD:q.size<=1000:=by
  unfold xR at c;injection c with c;rw[<-c];simp only[zO]at s;show (Tp.itoa b).length<=_;omega
 have bq:((⟨#[97]⟩:ByteArray)++q).size<=maxLen:=by rw[dM];unfold maxLen;omega
 rw[c]at l;have a6:=dB 42 _ _ a5;have b3:((⟨#[42]⟩:ByteArray)++((⟨#[97]⟩:ByteArray)++q)).size<=maxLen:=by rw[dM,dM];unfold maxLen;omega
 unfold zp;rw[a6];obtain⟨D,k,t⟩:=zx3 l F d;have be:=zD (θ ao a0);clear l;generalize g.length=b4 at *;generalize x.kids.length=b1 at *;clear N y f L G A d F z s C
 go_enter func132,ntmps132
 go_wp2_with fail
 refine D.out.mono ?_;rintro e cc ⟨rfl,j⟩;have H:=(j.block _ (lt_of_heap t.out)).trans t.out;obtain⟨cf,ch,cb,bk,_⟩:=pC H;have M:=k.out.below j k.out.lt;have al:=M.look_in bh underlying196 (jA _) (.int I (i:Int)) ac false (.bool true) (List.mem_map.2 ⟨i,a4,rfl⟩) (λp d _=>by obtain⟨b6,_,rfl⟩:=List.mem_map.1 d;rfl);simp only[Bool.false_eq_true,if_false]at al;have an:=zD j;clear j H M k t D R ad a2 X
 go_wp2_with fail
 go_ret
 exact⟨rfl,an.out⟩
theorem fi(g:List Tp.Nd)(v u:Value)(X ad:NS)(G:List Nat)(l d i c:Nat)(b:List Nat)(x:Tp.Nd)(w:World)(F:yc w X g v)(n:g[i]? =W x)(j:w.heap[l]? =W (J #[.int I 0,v,u,.map (W d)] 198 (0,0)))(H:Glob w)(A:x.kids≠[])(z:Row w ad g.length u (xP G))(q:G[i]? =W c)(ab:c=0)(a6:c<=1000)(E:(yn c).length<=1000)(k:xW π 3 w d (yo b))(an:¬i∈b)(b4:d≠l):
 Calls π 132 #[.pointer (W ⟨l,0,O⟩),.int I (i:Int)] w λe w'=>e=ρ (.iface 277 (γ #[.int I (i:Int),xR (yn c)]))/\xW π 3 w' d (yo (b++[i]))/\Far (·=d) w w':=by
 obtain⟨kv,bn,f⟩:=F.at n;obtain⟨ba,o,cap,rfl,b5,bR,bb,a4,c3,c4,c5⟩:=f.cells;have bk:=f.lt;have N:=f.le;obtain⟨a3,a0,b3,rfl,_,b1,bx⟩:=z.nat q;obtain⟨bD,av,rfl,_⟩:=f.kid.form;obtain⟨a5,bs,b2,be,_⟩:=pC j;have b0:(0:Int)<=(i:Int):=by omega
 have a9:(i:Int) < (g.length:Int):=by omega
 have bw:¬(x.kids.length:Int)=0:=by cases P:x.kids with
  |nil=>exact absurd P A
  |cons a r=>simp;omega
 unfold maxLen at N;have y:=bW i (by omega);have s:yn c=[]:=by unfold yn;rw[if_pos ab]
 rw[s]at E ⊢;have a1:¬(0:Int) < (c:Int):=by omega
 have ac:xR []=.string ⟨#[]⟩:=rfl;rw[ac];have C:∀p∈yo b,p.1≠.int I (i:Int):=λp j e=>by
  obtain⟨R,M,T⟩:=eZ _ _ j;rw[T]at e;simp at e
  have:R=i:=by omega
  exact an (this ▸ M)
 have S:=k.look_out bh underlying196 (jA _) (.int I (i:Int)) y false C;simp only[Bool.false_eq_true,if_false]at S;obtain⟨L,a2,D,t⟩:=k.put bh underlying196 (.int I (i:Int)) (.bool true) y C;have m:xW π 3 L d (yo (b++[i])):=by rw[show yo (b++[i])=yo b++[(.int I (i:Int),.bool true)]by simp[yo]];exact D
 obtain⟨al,ao⟩:=zx2 m t;clear D m t;generalize g.length=bq at *;generalize x.kids.length=bm at *;clear F n f A z q j k H E s
 go_enter func132,ntmps132
 go_wp2_with fail
 go_ret
 exact⟨rfl,al.out,ao.out⟩
theorem lP(g:List Tp.Nd)(v G:Value)(a9 bk:NS)(ac:List Nat)(q d i b:Nat)(c:List Nat)(x:Tp.Nd)(w:World)(ab:yc w a9 g v)(z:g[i]? =W x)(j:w.heap[q]? =W (J #[.int I 0,v,G,.map (W d)] 198 (0,0)))(A:Glob w)(P:x.kids≠[])(M:Row w bk g.length G (xP ac))(C:ac[i]? =W b)(bb:¬b=0)(b5:b<=1000)(t:(yn b).length<=1000)(H:xW π 3 w d (yo c))(bn:¬i∈c)(c1:d≠q):
 Calls π 132 #[.pointer (W ⟨q,0,O⟩),.int I (i:Int)] w λe w'=>e=ρ (.iface 277 (γ #[.int I (i:Int),xR (yn b)]))/\xW π 3 w' d (yo (c++[i]))/\Far (·=d) w w':=by
 obtain⟨kv,cf,k⟩:=ab.at z;obtain⟨b8,o,cap,rfl,c2,cm,ca,b3,c3,c4,c5⟩:=k.cells;have cb:=k.lt;have ao:=k.le;obtain⟨b2,bx,c0,rfl,_,ba,a5⟩:=M.nat C;obtain⟨cl,bw,rfl,_⟩:=k.kid.form;obtain⟨ad,a1,be,av,_⟩:=pC j;have co:(0:Int)<=(i:Int):=by omega
 have b6:(i:Int) < (g.length:Int):=by omega
 have ck:¬(x.kids.length:Int)=0:=by cases h:x.kids with
  |nil=>exact absurd h P
  |cons a r=>simp;omega
 unfold maxLen at ao;have L:=bW i (by omega);have D:yn b=97::Tp.itoa b:=by unfold yn;rw[if_neg bb]
 rw[D]at t ⊢;have bD:(0:Int) < (b:Int):=by omega
 have n:=dP (b:Int) (by omega) (by omega) w A;obtain⟨X,f⟩:∃T,xR (Tp.itoa b)=.string T:=⟨_,rfl⟩;have bs:=dB 97 _ _ f;have b9:X.size<=1000:=by
  unfold xR at f;injection f with f;rw[<-f];simp only[zO]at t;show (Tp.itoa b).length<=_;omega
 have b4:((⟨#[97]⟩:ByteArray)++X).size<=maxLen:=by rw[dM];unfold maxLen;omega
 rw[f]at n;rw[bs];have R:∀p∈yo c,p.1≠.int I (i:Int):=λp j e=>by
  obtain⟨a2,an,a6⟩:=eZ _ _ j;rw[a6]at e;simp at e
  have:a2=i:=by omega
  exact bn (this ▸ an)
 obtain⟨F,m,u⟩:=zx3 n H j;have bR:=zD (θ a5 ba);clear n;generalize g.length=ch at *;generalize x.kids.length=cc at *;clear ab z k P M C j H A t D
 go_enter func132,ntmps132
 go_wp2_with fail
 refine F.out.mono ?_;rintro e cv ⟨rfl,l⟩;have N:=(l.block _ (lt_of_heap u.out)).trans u.out;obtain⟨cS,cT,ct,b1,_⟩:=pC N;have s:=m.out.below l m.out.lt;have a3:=s.look_out bh underlying196 (jA _) (.int I (i:Int)) L false R;simp only[Bool.false_eq_true,if_false]at a3;obtain⟨al,b0,S,E⟩:=s.put bh underlying196 (.int I (i:Int)) (.bool true) L R;have y:xW π 3 al d (yo (c++[i])):=by rw[show yo (c++[i])=yo c++[(.int I (i:Int),.bool true)]by simp[yo]];exact S
 obtain⟨bm,bq⟩:=zx2 y E;clear S y E;have a4:=zD l;clear l N s m u F ad a1 be av
 go_wp2_with fail
 go_ret
 exact⟨rfl,bm.out,((Far.of_below a4.out (·=d)).step bq.out (λ_ _ e=>e))⟩
end
section
attribute [local go_sem] ak
theorem qL(n:Nat)(a2:n<=48)(c u:Nat)(xs:List Tp.B)(d:Int)(w:World)(G:c < w.heap.size)(T:∀(j:Nat) x,xs[j]? =some x->w.cell? ⟨c,j,O⟩=some (xR x))(bq:xs.length<=10)(a4:xs.length<=u)(r:xs.flatten.length<=1000000):
 Calls π 133 #[V I (n:Int),V I d,Y (some ⟨c,0,O⟩) xs.length u] w λe w'=>e=ρ (Al (List.replicate n 32++xs.flatten) (n:Int) d)/\Below w.heap.size w w':=by
 have f:=λW (h:Below w.heap.size w W)=>strings_Join c 0 u (xs.map λx=>(⟨x.toArray⟩:ByteArray)) ⟨#[]⟩ W (λj x C=>by
  rw[List.getElem?_map]at C;obtain⟨av,a0,rfl⟩:=zN.1 C;rw[Nat.zero_add];exact(World.cell?_of_block (w:=w) (h.block c G)).trans (T j av a0)) (zK G h.size) (by simp;omega) (by simpa using a4) (by
   rw[List.map_map,show ((λx=>x.data.toList) ∘ λx:Tp.B=>(⟨x.toArray⟩:ByteArray))=id from rfl,List.map_id];show (Lib.join xs []).length<=_;rw[kE];omega)
 simp only[List.length_map]at f;have ab:(Lib.join ((xs.map λx=>(⟨x.toArray⟩:ByteArray)).map (·.data.toList)) (⟨#[]⟩:ByteArray).data.toList)=xs.flatten:=by
  rw[List.map_map,show ((λx=>x.data.toList) ∘ λx:Tp.B=>(⟨x.toArray⟩:ByteArray))=id from rfl,List.map_id];exact kE xs
 rw[ab]at f;have g:=ur n a2;have F:xR (List.replicate n 32++xs.flatten)=U ((⟨(List.replicate n 32).toArray⟩:ByteArray)++⟨xs.flatten.toArray⟩):=congrArg Value.string (cV _ _).symm;have y:((⟨(List.replicate n 32).toArray⟩:ByteArray)++⟨xs.flatten.toArray⟩).size<=maxLen:=by
  rw[cV];show ((List.replicate n 32++xs.flatten).toArray).size<=_;rw[List.size_toArray,zP,List.length_replicate];unfold maxLen;omega
 unfold Al;rw[F];unfold xR at g;obtain⟨a,R⟩:∃a:ByteArray,(⟨xs.flatten.toArray⟩:ByteArray)=a:=⟨_,rfl⟩;obtain⟨b,al⟩:∃a:ByteArray,(⟨(List.replicate n 32).toArray⟩:ByteArray)=a:=⟨_,rfl⟩;rw[R]at f y ⊢;rw[al]at g y ⊢;have ao:b.size+a.size<=maxLen:=by rw[<-zX];exact y
 have bb:b.size+a.size<=9223372036854775807:=by unfold maxLen at ao;omega
 have a6:¬9223372036854775807 < b.size+a.size:=by omega
 have N:Below w.heap.size w (w.alloc (J #[U ⟨#[]⟩,V I 0,V I 0] 203)):=(ζ _ w).alloc (η _) _;have o:=af w (J #[U ⟨#[]⟩,V I 0,V I 0] 203);obtain⟨q,l⟩:∃q,w.heap.size=q:=⟨_,rfl⟩;rw[l]at o;obtain⟨E,M,p,m,a3⟩:=zx5 f g N o l;generalize xs.length=ba at *;clear f g N T r ab o R al F
 go_enter func133,ntmps133
 go_upto_region 1 with (fail)
 generalize (w.alloc (J #[U ⟨#[]⟩,V I 0,V I 0] 203))=a5 at *;clear l
 go_wp2_with fail
 refine(M.out _).mono ?_;rintro e a9 ⟨rfl,t⟩;have S:=p.out.trans (t.mono p.out.size);have k:=zD S;have D:=(t.block _ (lt_of_heap m.out)).trans m.out;have s:=zD D;clear t S D p m M
 go_wp2_with fail
 refine(E.out _ k.out).mono ?_;rintro e bD ⟨rfl,z⟩;have ac:=k.out.trans (z.mono k.out.size);have A:=(z.block _ (lt_of_heap s.out)).trans s.out;obtain⟨bw,bn,bk,be,bm,bx⟩:=bv A;have L:=xv A (U (b++a)) (V I (n:Int)) (V I d);obtain⟨H,X⟩:=zx2 L ac;clear z A L ac E s k
 go_wp2_with fail
 have an:=X.out.trans (H.out.2.to_below X.out.size (λi bs e=>by have:=a3.out;omega));exact bodyPost_ret (v:=γ #[U (b++a),V I (n:Int),V I d]) (by
  have r:=run_loadVar_row (P:=π) _ q 203 203 #[U (b++a),V I (n:Int),V I d] (0,0) _ H.out.1 underlying203 rfl (by kernel_rfl);have a1:f133.results=#[ResultVar.cell 6 203]:=rfl;simp[results,a1,asAddr,r,Sem.run_bind,Result.andThen]) rfl ⟨rfl,an⟩
def Ax(a:Tp.B):Tp.B:=if a.isEmpty then []else 32::38::a
theorem j8(i:Int)(d:Tp.B)(m:d.length<=1000)(w:World):Calls π 385 #[γ #[V I i,xR d]] w λe w'=>e=ρ (xR (Ax d))/\Below w.heap.size w w':=by
 have b:Below w.heap.size w (w.alloc (J #[V I i,xR d] 277)):=(ζ _ w).alloc (η _) _;cases d with
 |nil=>
  have g:xR []=U ⟨#[]⟩:=rfl;have f:Ax []=[]:=rfl;rw[f,g];rw[g]at b;have j:=zD b;clear b g f
  go_enter func385,ntmps385
  go_wp2_with fail
  go_ret
  exact⟨rfl,j.out⟩
 |cons c r=>
  have f:Ax (c::r)=32::38::c::r:=rfl;rw[f];obtain⟨T,a⟩:∃T,xR (c::r)=U T:=⟨_,rfl⟩;have l:xR (32::38::c::r)=U ((⟨#[32,38]⟩:ByteArray)++T):=by
   unfold xR at a ⊢;injection a with a;rw[<-a];exact congrArg Value.string (cV [32,38] (c::r)).symm
  have k:T.size=r.length+1:=by unfold xR at a;injection a with a;rw[<-a];rfl
  have p:T.toList.isEmpty=false:=by
   unfold xR at a;injection a with a;rw[<-a,ByteArray.toList_eq];rfl
  simp only[zO]at m;have o:((⟨#[32,38]⟩:ByteArray)++T).size<=maxLen:=by rw[zX,k];unfold maxLen;show 2+_<=_;omega
  have n:¬9223372036854775807 < 2+T.size:=by omega
  rw[l,a];rw[a]at b;have j:=zD b;clear b a l f k
  go_enter func385,ntmps385
  go_wp2_with fail
  go_ret
  exact⟨rfl,j.out⟩
end
section
attribute [local go_sem] ak
structure AU(g:List Tp.Nd):Prop where
 good:∀x∈g,Ah x
 few:∀x∈g,yx x
 keys:∀x∈g,∀y∈Tp.keysOf x,(x8 y=true/\y.s.length<=1000)/\(Tp.scText y).length<=100000
 kind:∀x∈g,x.kids≠[]->x.k=1\/x.k=2
 leaf:∀x∈g,x.kids=[]->(0<=x.k/\x.k<=2)/\(x8 x.x=true/\x.x.s.length<=1000)/\(Tp.nodeWord x).length<=100000
 len:∀x∈g,(Tp.headsOf x).length=(Tp.kidsOf x).length
 heads:∀x∈g,∀h∈Tp.headsOf x,h.length<=100001
 kl:∀x∈g,(Tp.kidsOf x).length<=100000
 kid:∀x∈g,∀k∈Tp.kidsOf x,k < g.length
 anc:∀i,i < g.length->Tp.anchor g i<=1000/\(yn (Tp.anchor g i)).length<=1000
def dOk(g:List Tp.Nd):Nat->Nat->Prop
 |0,i=>∀x,g[i]? =W x->∀k∈Tp.kidsOf x,∀a,g[k]? =W a->a.kids=[]
 |d+1,i=>∀x,g[i]? =W x->∀k∈Tp.kidsOf x,∀a,g[k]? =W a->a.kids=[]\/dOk g d k
structure EmW(g:List Tp.Nd)(v av:Value)(GG GA:NS)(pb mb:Nat)(W:World):Prop where
 gr:yc W GG g v
 pr:W.heap[pb]? =some (J #[V I 0,v,av,.map (some mb)] 198 (0,0))
 gl:Glob W
 an:Row W GA g.length av (xP ((List.range g.length).map (Tp.anchor g)))
theorem EmW.far{g:List Tp.Nd}{v o:Value}{f j D:NS}{i l:Nat}{m n:World}(c:EmW g v o f j i l m)(b:Far D m n)(d:∀k,D k->¬f k/\¬j k/\k≠i/\¬k < 10):EmW g v o f j i l n:=
 ⟨c.gr.far b (λk a _ e=>(d k e).1 a),b.heap c.pr (λe=>(d _ e).2.2.1 rfl),c.gl.far b (λk a e=>(d k e).2.2.2 a),c.an.far b (λk a _ e=>(d k e).2.1 a)⟩
theorem tN(g:List Tp.Nd)(i:Nat):Tp.anchName g i=yn (Tp.anchor g i):=rfl
theorem xd(k:Nat)(s:Value)(a:World):(Instr.typeAssert (.iface 277 (γ #[V I (k:Int),s])) 271 277 true).run π a=.ok (.tuple #[γ #[V I (k:Int),s],β true]) a:=by kernel_rfl
theorem uQ(x:Value)(a:World):(Go.method 653 277 x "sigillary/emit.text").run π a=.ok (385,x) a:=by kernel_rfl
theorem kS(args:Array Value)(a:World):(callFunc 384 args).run π a=.ok (.enter 384 args) a:=by kernel_rfl
theorem rU(args:Array Value)(a:World):(callFunc 385 args).run π a=.ok (.enter 385 args) a:=by kernel_rfl
theorem vS(b:Tp.B)(f:b.length<=200000)(c:World):Calls π 384 #[xR b] c λe w'=>e=ρ (xR (32::b))/\Below c.heap.size c w':=by
 obtain⟨d,a⟩:∃d,xR b=U d:=⟨_,rfl⟩;rw[dB 32 _ _ a,a];refine(jD d (by unfold xR at a;injection a with a;rw[<-a];show b.length<=_;omega) c).mono ?_;rintro e w' ⟨rfl,rfl⟩;exact⟨rfl,ζ _ _⟩
def Bb(g:List Tp.Nd)(x q k b m:Nat)(w:Tp.B)(p:List (Tp.B × Nat))(f r:List Nat)(rest:List Tp.B)(wr:World):Prop:=
 ∃(n:TypeId) (c:Value) (u:Int) (y:ByteArray) (ok:Bool) (l:Tp.B) (i:Nat) (o:List Nat),
  Calls π 132 #[.pointer (W ⟨x,0,O⟩),.int I (k:Int)] wr (λe w'=>e=ρ (.iface n c)/\xW π 3 w' q (yo o)/\Far (·=q) wr w')/\
  (∀a,(Instr.typeAssert (.iface n c) 271 277 true).run π a=.ok (.tuple #[γ #[.int I u,.string y],.bool ok]) a)/\
  (∀a,(Go.method 653 n c "sigillary/emit.text").run π a=.ok (i,c) a)/\
  (∀args a,(callFunc i args).run π a=.ok (.enter i args) a)/\
  (∀a,Calls π i #[c] a λe w'=>e=ρ (xR l)/\Below a.heap.size a w')/\l.length<=200010/\
  ((ok=false/\(∀j,j∈o↔j∈f)/\∃d,Tp.itemsL g m b p f=W (d,r)/\rest=(List.replicate b 32++(w++l))::d)\/
   (ok=true/\u=(k:Int)/\(∀j,j∈o↔j∈k::f)/\(∃v,g[k]? =W v/\v.kids≠[])/\∃t s d,Tp.items g m k (b+2) (k::f)=W (t,s)/\Tp.itemsL g m b p s=W (d,r)/\rest=(List.replicate b 32++(w++l))::(t++d)))
theorem tT(g:List Tp.Nd)(v s:Value)(t C:NS)(l f k L G:Nat)(X:Tp.B)(P:List (Tp.B × Nat))(y R i:List Nat)(rest:List Tp.B)(wr:World)(T:AU g)(a:EmW g v s t C l f wr)(p:xW π 3 wr f (yo i))(q:∀j,j∈i↔j∈y)(F:f≠l)(H:k < g.length)(c:Tp.itemsL g (G+1) L ((X,k)::P) y=W (rest,R)):Bb g l f k L G X P y R rest wr:=by
 obtain⟨b,o⟩:∃b,g[k]? =W b:=⟨_,zE H⟩;have ad:=zL o;have E:((List.range g.length).map (Tp.anchor g))[k]? =W (Tp.anchor g k):=by simp[H]
 have n:=T.anc k H;unfold Tp.itemsL at c;simp only[zY,o,Option.getD_some]at c;by_cases m:b.kids=[]
 ·have D:=T.leaf b ad m
  rw[if_pos (by rw[m];rfl)]at c;obtain⟨⟨u,S⟩,A,d⟩:=zN.1 c;injection d with d h3;subst h3;refine⟨273,xR (Tp.nodeWord b),0,⟨#[]⟩,false,32::Tp.nodeWord b,384,i,(oc g v s t l f k b wr a.gr o a.pr a.gl D.2.1 D.1 m).mono ?_,wo _,pX _,kS,vS _ (by have:=D.2.2;omega),by have:=D.2.2;simp;omega,.inl ⟨rfl,q,u,A,?_⟩⟩
  ·rintro e w' ⟨rfl,x⟩
   exact⟨rfl,p.below x p.lt,Far.of_below x _⟩
  ·rw[<-d,List.append_assoc]
 ·rw[if_neg (by rw[List.isEmpty_iff];exact m),tN]at c
  by_cases r:k∈y
  ·rw[if_pos r]at c
   obtain⟨⟨u,S⟩,A,d⟩:=zN.1 c;injection d with d h3;subst h3;have N:Calls π 132 #[.pointer (W ⟨l,0,O⟩),.int I (k:Int)] wr λe w'=>e=ρ (zp (42::yn (Tp.anchor g k)))/\Below wr.heap.size wr w':=by
    by_cases w:Tp.anchor g k=0
    ·exact ob g v s t C _ l f k _ i b wr a.gr o a.pr a.gl m a.an E w n.1 n.2 p ((q k).2 r) F
    ·exact oa g v s t C _ l f k _ i b wr a.gr o a.pr a.gl m a.an E w n.1 n.2 p ((q k).2 r) F
   refine⟨273,xR (42::yn (Tp.anchor g k)),0,⟨#[]⟩,false,32::42::yn (Tp.anchor g k),384,i,N.mono ?_,wo _,pX _,kS,vS _ (by simp;omega),by simp;omega,.inl ⟨rfl,q,u,A,?_⟩⟩
   ·rintro e w' ⟨rfl,x⟩
    exact⟨rfl,p.below x p.lt,Far.of_below x _⟩
   ·rw[<-d,List.append_assoc]
  ·rw[if_neg r]at c
   cases M:Tp.items g G k (L+2) (k::y) with
   |none=>rw[M]at c;cases c
   |some z=>
    obtain⟨ac,ab⟩:=z;rw[M]at c;obtain⟨⟨u,S⟩,A,d⟩:=zN.1 c;injection d with d h3;subst h3;have N:Calls π 132 #[.pointer (W ⟨l,0,O⟩),.int I (k:Int)] wr λe w'=>e=ρ (.iface 277 (γ #[.int I (k:Int),xR (yn (Tp.anchor g k))]))/\xW π 3 w' f (yo (i++[k]))/\Far (·=f) wr w':=by
     by_cases w:Tp.anchor g k=0
     ·exact fi g v s t C _ l f k _ i b wr a.gr o a.pr a.gl m a.an E w n.1 n.2 p (λe=>r ((q k).1 e)) F
     ·exact lP g v s t C _ l f k _ i b wr a.gr o a.pr a.gl m a.an E w n.1 n.2 p (λe=>r ((q k).1 e)) F
    refine⟨277,γ #[.int I (k:Int),xR (yn (Tp.anchor g k))],(k:Int),⟨(yn (Tp.anchor g k)).toArray⟩,true,Ax (yn (Tp.anchor g k)),385,i++[k],N,xd k _,uQ _,rU,j8 _ _ n.2,?_,.inr ⟨rfl,rfl,?_,⟨b,o,m⟩,ac,ab,u,M,A,?_⟩⟩
    ·unfold Ax;split<;>simp;omega
    ·intro j;simp[q j,or_comm]
    ·rw[<-d,List.append_assoc];rfl
end
section
attribute [local go_sem] ak
def AR(c:List Tp.B)(t:Nat)(a:Array Value)(b:NS)(_:World):Prop:=(∃s n k,c[t]? =W s/\a=#[Al s n k])/\b=xO
def A4(g:Nat->NS->World->Prop)(m:NS->World->Prop)(i d:Nat)(l:List Nat)(c:NS)(w:World)(e:Ending)(b:World):Prop:=(e=ρ (.bool true)/\∃a f,g i a b/\(∀j,j∈f↔j∈l)/\xW π 3 b d (yo f)/\Far (λk=>c k\/k=d) w b/\(∀k,a k->c k\/w.heap.size<=k))\/(e=ρ (.bool false)/\∃a,m a b)
def Aw(g:List Tp.Nd)(v z:Value)(o m:NS)(f a l:Nat)(LS:List Tp.B)(t:Nat->NS->World->Prop)(u:NS->World->Prop)(d:Nat):Prop:=
 ∀(y i e:Nat) (q p:List Nat) (b:List Tp.B) (r:List Nat) (n:Nat) (c:NS) (w:World),Tp.items g y i e q=W (b,r)->dOk g d i->e+2 * d<=46->(∀j,j∈p↔j∈q)->(∃x,g[i]? =W x/\x.kids≠[])->
  EmW g v z o m f a w->xW π 3 w a (yo p)->(∀j s,b[j]? =W s->LS[n+j]? =W s)->(∀k,c k->¬o k/\¬m k/\k≠f/\¬k < 10/\k≠a)->(∀k,o k\/m k->k < w.heap.size)->t n c w->
  Calls π 134 #[.pointer (W ⟨f,0,O⟩),φ (.yield l) #[] #[],.int I (i:Int),.int I (e:Int)] w (A4 t u (n+b.length) a r c w)
theorem ij(g:List Tp.Nd)(v b0:Value)(H N:NS)(M m B l:Nat)(LS:List Tp.B)(J:Nat->NS->World->Prop)(fs:NS->World->Prop)(R:AU g)(fX:m≠M)(m3:10<=m)(hH:∀k,H k\/N k->k≠m)
(hA:∀t f y c1,J t f y->Far (y8 (·=m) f B) y c1->J t f c1)(hr:∀t f y,J t f y->B<=y.heap.size)(r:∀t f y,J t f y->∀k,f k->k < y.heap.size)
(h1:∀t,t < LS.length->∀f e3 g1 y,J t f y->AR LS t g1 e3 y->(∀k,e3 k->¬f k/\k < y.heap.size)->YieldAt Fence.wide 3 π l g1 y λe c1=>∃a3,(Far f y c1/\∀k,a3 k->f k\/e3 k\/y.heap.size<=k)/\((e=ρ (.bool true)/\J (t+1) a3 c1)\/(e=ρ (.bool false)/\fs a3 c1)))
(d:Nat)(ih:∀(i:Nat) x,dOk g d i->g[i]? =W x->∀k∈Tp.kidsOf x,∀dj,g[k]? =W dj->dj.kids≠[]->∃d3,d=d3+1/\dOk g d3 k/\Aw g v b0 H N M m l LS J fs d3):Aw g v b0 H N M m l LS J fs d:=by
 intro bD i ad ao an hZ c2 F G w b8 hV ln hI bb b2 gJ cl hF0 hg fl;obtain⟨x,bb,f1⟩:=bb;have a0:=zL bb;obtain⟨a5,rfl⟩:∃a5,bD=a5+1:=by
  cases bD with
  |zero=>unfold Tp.items at b8;cases b8
  |succ bD=>exact⟨bD,rfl⟩
 unfold Tp.items at b8;simp only[zY,bb,Option.getD_some]at b8;obtain⟨C,er⟩:∃e4,w.heap.size=e4:=⟨_,rfl⟩;have hc:∀k,G k->k < C:=λk b=>by rw[<-er];exact r F G w fl k b
 have eg:=rF g v b0 H M m i x w b2.gr bb b2.pr b2.gl (R.good x a0) (R.few x a0) (R.keys x a0) (R.kind x a0 f1) f1;obtain⟨kv,kn,iv⟩:=b2.gr.at bb;have d4:=λy (iB:Below w.heap.size w y)=>bQ 0 x v kv kn g.length i H y (iv.below iB) (R.few x a0);obtain⟨a,dp,rfl,mK⟩:=b2.gr.form;have hL:=λ(t k fS:Nat) (b:Tp.B) (ct:List (Tp.B × Nat)) met1 M1 rest1 (wr:World)=>tT g (Y a g.length dp) b0 H N M m k ad fS b ct met1 c2 M1 rest1 wr R;have e2:=ih i x hV bb;have f4:=R.kid x a0;have b6:=R.len x a0;have f5:=R.heads x a0;have g6:=R.kl x a0;obtain⟨al,fE⟩:∃al,Tp.headsOf x=al:=⟨_,rfl⟩;obtain⟨D,e0⟩:∃D,Tp.kidsOf x=D:=⟨_,rfl⟩;obtain⟨Z,el⟩:∃Z,al.zip D=Z:=⟨_,rfl⟩;rw[fE,e0,el]at b8;rw[fE]at eg b6 f5;rw[e0]at d4 b6 g6 f4 e2;obtain⟨p,eM⟩:∃p,D.length=p:=⟨_,rfl⟩;rw[eM]at b6 g6 d4;rw[b6]at eg;have hG:Z.length=p:=by rw[<-el,List.length_zip,b6,eM];exact Nat.min_self _
 have gf:∀(t k:Nat) (b:Tp.B),al[t]? =W b->D[t]? =W k->Z.drop t=(b,k)::Z.drop (t+1):=λt k b L k6=>by
  have ac:Z[t]? =W (b,k):=by rw[<-el];exact(List.getElem?_zip_eq_some (z:=(b,k))).2 ⟨L,k6⟩
  have b4:t < Z.length:=(zM.1 ac).1;rw[zW b4];rw[zE b4]at ac;injection ac with ac;rw[ac]
 generalize hEE:F+hZ.length=E;have hs:=zD (θ eM b6);obtain⟨hy,g0,k5,k4,lc,i3⟩:=zx6 eg d4 hL e2 f4 h1;obtain⟨li,ex,l3,co,d6,lb⟩:=zx6 r hA hr hg hH f5;obtain⟨i9,c3,c6⟩:=zx3 hc hF0 b2;have dn:=zD (θ gJ hI);have hY:=zD fl;have e7:=zD (θ b8 (θ cl hEE));have hW:=zD (θ hG gf);clear eg d4 hL e2 f4 h1 r hA hr hg hH f5 hc hF0 b2 gJ hI fl b8 cl hEE hG gf bb iv f1 fE e0 el eM b6 R ih hV a0;obtain⟨kg,la,lg,jK,_⟩:=pC c6.out.pr
 go_enter func134,ntmps134
 go_wp2_with fail
 refine hy.out.mono ?_;rintro e le ⟨⟨bm,rfl,cf⟩,gd⟩;have g4:=(gd.block _ (lt_of_heap c6.out.pr)).trans c6.out.pr;obtain⟨j9,kh,i7,i8,_⟩:=pC g4;obtain⟨hq,ds,rfl,_⟩:=cf.form;obtain⟨c9,h3⟩:=zx2 gd cf;clear gd cf hy kg la lg jK g4
 go_wp2_with fail
 refine(g0.out _ c9.out).mono ?_;rintro e kd ⟨⟨md,rfl,fR⟩,fG⟩;have cb:=c9.out.trans (fG.mono c9.out.size);have cf:=h3.out.below fG;have hB:=fR.mono (G':=New w) (λk (c:le.heap.size<=k) _=>(by have:=c9.out.size;show w.heap.size<=k;omega));have hf:=ex.out F G _ _ hY.out ((Far.of_below cb (y8 (·=m) G B)));have h0:=dn.out.1.below cb dn.out.1.lt;have hp:=c6.out.far (Far.of_below cb xO) (λ_ e=>e.elim);obtain⟨ky,e1,rfl,_⟩:=fR.form;obtain⟨q,hF⟩:∃e4,kd.heap.size=e4:=⟨_,rfl⟩;have jw:=zD (cf.mono (G':=λk=>C<=k/\k < q) (λk c f8=>⟨(by rw[<-er];exact c),by rw[<-hF];exact f8⟩));have i5:=zD (hB.mono (G':=λk=>C<=k/\k < q) (λk c f8=>⟨(by rw[<-er];exact c),by rw[<-hF];exact f8⟩));obtain⟨js,i4,k2⟩:=zx3 hf h0 hp;have iC:=zD (Far.of_below cb (λk=>G k\/k=m));have iw:=cb.size;have i1:=lt_of_heap c6.out.pr;have k3:=dn.out.1.lt;clear fG cb cf fR hB hf h0 hp h3 g0 c9 j9 kh i7 i8 hY;rw[er]at iw i1 co k3
 go_wp2_with fail
 go_loopw [32] (λfw wr=>∃(t:Nat),fw=.int I (t:Int)/\t<=p/\∃(f:NS) (F a5:Nat) (ao an:List Nat) (rest:List Tp.B),Row wr (λk=>C<=k/\k < q) p (Y hq p ds) (al.map xR)/\Row wr (λk=>C<=k/\k < q) p (Y ky p e1) (xP D)/\EmW g (Y a g.length dp) b0 H N M m wr/\xW π 3 wr m (yo an)/\(∀j,j∈an↔j∈ao)/\Tp.itemsL g a5 ad (Z.drop t) ao=W (rest,c2)/\(∀j s,rest[j]? =W s->LS[F+j]? =W s)/\F+rest.length=E/\q<=wr.heap.size/\J F f wr/\(∀k,f k->¬H k/\¬N k/\k≠M/\¬k < 10/\k≠m/\(G k\/q<=k)/\(k < C\/q<=k))/\Far (λk=>G k\/k=m) w wr) (λfw _=>p - (Lib.intOf fw).toNat)
 case atStart=>exact⟨0,rfl,z_ _,G,F,a5,ao,an,hZ,jw.out,i5.out,k2.out,i4.out,dn.out.2,e7.out.1,e7.out.2.1,e7.out.2.2,by omega,js.out,λk c=>⟨(c3.out k c).1,(c3.out k c).2.1,(c3.out k c).2.2.1,(c3.out k c).2.2.2.1,(c3.out k c).2.2.2.2,.inl c,.inl (i9.out k c)⟩,iC.out⟩
 case round=>
  obtain⟨t,rfl,lQ,f,u,e8,ek,h4,rest,T,a1,dA,dJ,ej,X,cl,b3,mp,P,ep,d0⟩:=hrel;by_cases b4:t < p
  ·obtain⟨k,c⟩:∃k,D[t]? =W k:=⟨_,zE (by rw[hs.out.1];exact b4)⟩
   obtain⟨b,eq⟩:∃b,al[t]? =W b:=⟨_,zE (by rw[hs.out.2];exact b4)⟩;rw[hW.out.2 t k b eq c]at X;obtain⟨dr,rfl⟩:∃fS,e8=fS+1:=by
    cases e8 with
    |zero=>unfold Tp.itemsL at X;cases X
    |succ bD=>exact⟨bD,rfl⟩
   have fv:=zL c;have l4:=lb.out b (zL eq);have gO:=k4.out k fv;obtain⟨ls,mC,db,es,hT,dg,l2,gZ,ca,jL,kf,k1,gr,l5,gR⟩:=k5.out t k dr b _ ek h4 rest wr dA dJ ej fX (lc.out k fv) X;obtain⟨hb,gx,l1,kr,l0,ml,jb⟩:=a1.nat c;injection kr with e21 e22 e23;clear e22;subst e21 e23;obtain⟨m1,bn,di,i2,gk,h8,f2,fr⟩:=T;have cv:(al.map xR)[t]? =W (xR b):=by rw[List.getElem?_map,eq];rfl
   obtain⟨rfl,l9,hu⟩:=fr (λe=>by rw[e]at cv;simp at cv);have kk:=f2 (λe=>by rw[e]at cv;simp at cv);have T:Row wr (λk=>C<=k/\k < q) p (Y hq p ds) (al.map xR):=⟨_,bn,di,i2,gk,h8,f2,fr⟩;injection gk with e11 e12 e13;clear e12;subst e11 e13;have hv:=hu t _ cv;have l6:(t:Int) < (p:Int):=by omega
   have lr:(0:Int)<=(t:Int):=by omega
   obtain⟨hd,gj,hD,gM,ie,hl⟩:=zx6 ca T a1 dA gR gr;have cc:=zD (θ cl b3);obtain⟨it,av,hn,kc⟩:=zx4 P ep d0 gO;clear ca T a1 dA gR gr cl b3 P ep d0 gO fr f2 h8 hu cv c eq X dJ ej fv
   go_wp2_with fail
   refine hd.out.mono ?_;rintro e c0 ⟨rfl,hS,fz⟩;have hw:=ex.out u f _ _ it.out (fz.mono (D':=y8 (·=m) f B) (λk _ e=>⟨λc=>(av.out k c).2.2.2.2.1 e,.inl e⟩));have dW:Far xO c0 (c0.alloc (.cells #[.int I db,.string es] 277)):=(ξ _ c0).alloc _;have h5:=ex.out u f _ _ hw (dW.mono (λ_ _ e=>e.elim));have hk:=hS.far dW id;have bR:Far (·=m) wr (c0.alloc (.cells #[.int I db,.string es] 277)):=fz.step dW (λ_ _ e=>e.elim);have lt:bn < q/\C<=bn:=by have:=kk;omega
   have ef:=bR.at hv (by show bn≠m;omega);have hz:=gM.out.far bR (λk e=>by subst e;exact⟨λb=>d6.out _ (.inl b) rfl,λb=>d6.out _ (.inr b) rfl,fX,by omega⟩);have gl:=gj.out.far bR (λk c _ e=>by omega);have g5:=hD.out.far bR (λk c _ e=>by omega);obtain⟨ka,k0,_⟩:=bO (af c0 (.cells #[.int I db,.string es] 277));have l7:=bR.size;obtain⟨fL,hx⟩:∃o,(if hT=true then db else -1)=o:=⟨_,rfl⟩;obtain⟨he,ge,gQ,hi,hU⟩:=zx5 h5 hk hz gl g5;have h9:=zD (hn.out.step bR (λk _ e=>.inr e));have gg:=zD hx;clear hw h5 hS hk fz bR dW hz gl g5 hx hd gM gj hD it hn hv jb
   go_upto_if 45 with (fail)
   generalize (c0.alloc (.cells #[.int I db,.string es] 277))=dv at *;clear jL
   go_cut [15]from 33 to 71 (λkB wx=>kB=.int I fL/\wx=dv)
   case first=>
    have L:=gg.out;cases hT with
    |true=>
     simp only[if_true]at L;subst L
     go_wp2_with fail
     go_meet
     case rel=>exact⟨rfl,rfl⟩
    |false=>
     simp only[Bool.false_eq_true,if_false]at L;subst L
     go_wp2_with fail
     go_meet
     case rel=>exact⟨rfl,rfl⟩
   case rest=>
    obtain⟨rfl,h6⟩:=hcut;obtain rfl:=h6.symm;clear h6 ka k0
    go_upto_region 11 with (fail)
    obtain⟨cS,hQ⟩:∃f6,xR b=.string f6:=⟨_,rfl⟩;rw[hQ]at ef;refine wp_region_noPanic ?_;refine(wpIn_wide (n:=4)).1 ?_;refine cK (λy=>y.cell? ⟨bn,di+t,O⟩=W (.string cS)) [11,12] (by kernel_rfl) ?_;refine fV (by kernel_rfl) (λ_ _ _ _ b=>b) ef 5 [0,1,2,3,4,5,6,7] _ _ (by kernel_rfl) ?_;iterate 8 (refine Ei ?_;(try go_frame))
    refine xT.done ?_;try dsimp only
    refine dQ [8] (by kernel_rfl) (by simp) ?_;refine yj.cons rfl (by kernel_rfl) (λK r=>?_) yj.nil
    go_simp
    refine⟨trivial,callsIn_wide.2 ((hl.out _).mono ?_)⟩;rintro e ck ⟨rfl,ht⟩;obtain⟨SX,hm⟩:∃f6,xR dg=.string f6:=⟨_,rfl⟩;have fc:Far xO dv ck:=((ξ _ dv).drew).below ht;have hK:=fc.at ef id;rw[hm];refine r.out _ _ (λ_=>hK) ?_;clear r K k1 kf hl
    (try go_frame)
    refine dQ [9] (by kernel_rfl) (by simp) ?_;refine yj.cons rfl (by kernel_rfl) (λK r=>?_) yj.nil;have e9:Far xO dv (ck.alloc (.cells #[.string cS,.string SX] 9)):=fc.alloc _;have fn:(ck.alloc (.cells #[.string cS,.string SX] 9)).cell? ⟨bn,di+t,O⟩=W (.string cS):=e9.at ef id;have dC:=af ck (.cells #[.string cS,.string SX] 9)
    go_simp
    refine r.out _ _ (λ_=>fn) ?_;clear r K
    (try go_frame)
    refine dQ [10] (by kernel_rfl) (by simp) ?_;refine yj.cons rfl (by kernel_rfl) (λK r=>?_) yj.nil;have ft:=qL ad (by omega) ck.heap.size 2 [b,dg] fL (ck.alloc (.cells #[.string cS,.string SX] 9)) (lt_of_heap dC) (λj z ac=>by
     match j with
     |0=>simp at ac;subst ac;rw[hQ];exact ae dC 0
     |1=>simp at ac;subst ac;rw[hm];exact ae dC 1
     |j+2=>simp at ac) (by simp) (by simp) (by simp;omega)
    have kl:[b,dg].flatten=b++dg:=by simp
    rw[kl]at ft
    go_simp
    refine⟨trivial,callsIn_wide.2 (ft.mono ?_)⟩;rintro e iY ⟨rfl,gc⟩;have a9:=e9.below gc;refine r.out _ _ (λ_=>((Far.of_below gc xO).at fn id)) ?_;clear r K ft fn hK dC e9 fc gc ht
    (try go_frame)
    have f7:=ex.out u f _ _ he.out (a9.mono (λ_ _ e=>e.elim));obtain⟨cm,d2⟩:∃cm,List.replicate ad 32++(b++dg)=cm:=⟨_,rfl⟩;have i0:∃ct,rest=cm::ct:=by
     rcases ie.out with ⟨_,_,ct,_,e⟩|⟨_,_,_,_,S,fT,ct,_,_,e⟩
     ·exact⟨ct,by rw[e,d2]⟩
     ·exact⟨_,by rw[e,d2]⟩
    obtain⟨mL,fu⟩:=i0;have e6:LS[u]? =W cm:=cc.out.1 0 cm (by rw[fu];rfl);have i6:u < LS.length:=(zM.1 e6).1;obtain⟨m4,lR,assign,body,b5,hR⟩:=i3.out u i6 f xO #[Al cm (ad:Int) fL] iY f7 ⟨⟨_,_,_,e6,rfl⟩,rfl⟩ (λk b=>b.elim);obtain⟨ga,hM,hP⟩:=zx3 hR fu d2;clear hR fu e6 d2;rw[hP.out];refine dQ [11] (by kernel_rfl) (by simp) ?_;refine yj.cons rfl (by kernel_rfl) (λK r=>?_) yj.nil;unfold Al at b5 ⊢
    go_simp
    refine(ga.out).mono ?_;rintro e bk ⟨a3,⟨bs,ch⟩,(⟨rfl,hh⟩|⟨rfl,g3⟩)⟩
    ·have mb:=a9.size
     have l8:=bs.size;have hj:=(gQ.out.far a9 (λ_ e=>e.elim)).far bs (λk e=>⟨(av.out k e).1,(av.out k e).2.1,(av.out k e).2.2.1,(av.out k e).2.2.2.1⟩);have hN:=(ge.out.far a9 id).far bs (λe=>(av.out _ e).2.2.2.2.1 rfl);have T:=(hi.out.far a9 (λ_ _ _ e=>e)).far bs (λk c _ e=>by have:=(av.out k e).2.2.2.2.2.2;omega);have a1:=(hU.out.far a9 (λ_ _ _ e=>e)).far bs (λk c _ e=>by have:=(av.out k e).2.2.2.2.2.2;omega);have hX:=(h9.out.step a9 (λ_ _ e=>e.elim)).step bs (D':=f) (λk c e=>by rcases (av.out k e).2.2.2.2.2.1 with b|b;exact .inl b;omega);have h7:∀k,a3 k->¬H k/\¬N k/\k≠M/\¬k < 10/\k≠m/\(G k\/q<=k)/\(k < C\/q<=k):=by
      intro k b;rcases ch k b with b|b|b
      ·exact av.out k b
      ·exact b.elim
      ·exact⟨λc=>by have:=co.out k (.inl c);omega,λc=>by have:=co.out k (.inr c);omega,by omega,by omega,by omega,.inr (by omega),.inr (by omega)⟩
     have d1:=zD (θ hj (θ hN (θ T (θ a1 (θ hX (θ h7 hh))))));clear hj hN T a1 hX h7 hh bs ch a9 gQ ge hi hU h9 he ga b5 f7;refine r.out _ _ (λb=>absurd (by simp) b) ?_;clear r K
     (try go_frame)
     refine dQ [12] (by kernel_rfl) (by simp) ?_;refine yj.cons rfl (by kernel_rfl) (λK r=>?_) yj.nil
     go_simp
     refine r.out _ _ (λb=>absurd (by simp) b) ?_;clear r K
     (try go_frame)
     refine rD (by kernel_rfl) (NoPanic.normal ?_) _;rcases ie.out with ⟨f0,c4,bm,ba,a4⟩|⟨f0,kt,c4,c5,S,fT,bm,hC,ba,a4⟩
     ·subst f0
      obtain⟨a6,da,bw,bq,bx,A,dc⟩:=d1.out;have en:=hM.out;rw[a4,hP.out]at en;have dm:∀j s,bm[j]? =W s->LS[u+1+j]? =W s:=λj s P=>by
       have:=cc.out.1 (j+1) s (by rw[a4];exact P);rw[show u+1+j=u+(j+1)by omega];exact this
      have be:u+1+bm.length=E:=by
       have L:=cc.out.2;rw[a4,zO]at L;omega
      have f9:=zD (show ∃(b1:Nat),Value.int I ((t:Int)+1)=.int I (b1:Int)/\b1<=p/\∃(f:NS) (F a5:Nat) (ao an:List Nat) (rest:List Tp.B),Row bk (λk=>C<=k/\k < q) p (Y (W ⟨bn,di,O⟩) p ds) (al.map xR)/\Row bk (λk=>C<=k/\k < q) p (Y (W ⟨hb,gx,O⟩) p e1) (xP D)/\EmW g (Y a g.length dp) b0 H N M m bk/\xW π 3 bk m (yo an)/\(∀j,j∈an↔j∈ao)/\Tp.itemsL g a5 ad (Z.drop b1) ao=W (rest,c2)/\(∀j s,rest[j]? =W s->LS[F+j]? =W s)/\F+rest.length=E/\q<=bk.heap.size/\J F f bk/\(∀k,f k->¬H k/\¬N k/\k≠M/\¬k < 10/\k≠m/\(G k\/q<=k)/\(k < C\/q<=k))/\Far (λk=>G k\/k=m) w bk from ⟨t+1,by go_num,b4,a3,u+1,dr,ek,gZ,bm,bw,bq,a6,da,c4,ba,dm,be,by omega,dc,A,bx⟩);clear a6 da bw bq bx A dc d1 c4 ba a4 en dm be
      go_wp2_with fail
      go_roundw
      case rel=>exact f9.out
      case measure=>simp[Lib.intOf];omega
     ·subst f0
      obtain⟨a6,da,bw,bq,bx,A,dc⟩:=d1.out;obtain⟨dj,b5,c5⟩:=c5;obtain⟨d3,jW,gN,hE⟩:=kc.out dj b5 c5;obtain rfl:=jW;have L:=gg.out;simp only[if_true]at L;rw[kt]at L;subst L;have en:=hM.out;have dm:∀j s,S[j]? =W s->LS[u+1+j]? =W s:=λj s P=>by
       have jj:=(zM.1 P).1;have:=cc.out.1 (j+1) s (by rw[a4,List.getElem?_cons_succ,List.getElem?_append_left jj];exact P);rw[show u+1+j=u+(j+1)by omega];exact this
      have dl:∀j s,bm[j]? =W s->LS[u+1+S.length+j]? =W s:=λj s P=>by
       have:=cc.out.1 (S.length+j+1) s (by rw[a4,List.getElem?_cons_succ,zV (by omega),show S.length+j - S.length=j by omega];exact P);rw[show u+1+S.length+j=u+(S.length+j+1)by omega];exact this
      have be:u+1+S.length+bm.length=E:=by
       have L:=cc.out.2;rw[a4,zO,zP]at L;omega
      have ca:=hE dr k (ad+2) (k::ek) gZ S fT (u+1) a3 bk hC gN (by omega) c4 ⟨dj,b5,c5⟩ a6 da dm (λk c=>⟨(A k c).1,(A k c).2.1,(A k c).2.2.1,(A k c).2.2.2.1,(A k c).2.2.2.2.1⟩) (λk c=>zK (co.out k c) (by omega)) dc;have h2:((ad+2:Nat):Int)=(ad:Int)+2:=by omega
      rw[h2]at ca;have gb:=zD ca;have f3:=zD (θ a6 (θ bw (θ bq (θ bx A))));have fY:=zD (θ ba (θ dl be));clear a6 da bw bq bx A dc ca hE dm dl be en a4 ba hC gN c4 d1 b5 c5 h2
      go_wp2_with fail
      refine gb.out.mono ?_;rintro e b9 (⟨rfl,ei,kb,ho,g8,g7,cT,hJ⟩|⟨rfl,ei,g2⟩)
      ·obtain⟨a6,bw,bq,bx,A⟩:=f3.out
       obtain⟨ba,dl,be⟩:=fY.out;have m2:=cT.size;have b3:=a6.far cT (λk e=>by
        rcases e with e|e
        ·exact⟨(A k e).1,(A k e).2.1,(A k e).2.2.1,(A k e).2.2.2.1⟩
        ·subst e;exact⟨λb=>d6.out _ (.inl b) rfl,λb=>d6.out _ (.inr b) rfl,fX,by omega⟩)
       have e5:∀k,(a3 k\/k=m)->k < C\/q<=k:=λk e=>by
        rcases e with e|e
        ·exact(A k e).2.2.2.2.2.2
        ·left;omega
       have T:=bw.far cT (λk c _ e=>by have:=e5 k e;omega);have a1:=bq.far cT (λk c _ e=>by have:=e5 k e;omega);have ha:=bx.step cT (λk c e=>by
        rcases e with e|e
        ·rcases (A k e).2.2.2.2.2.1 with b|b
         ·exact .inl b
         ·omega
        ·exact .inr e)
       have ch:∀k,ei k->¬H k/\¬N k/\k≠M/\¬k < 10/\k≠m/\(G k\/q<=k)/\(k < C\/q<=k):=λk b=>by
        rcases hJ k b with b|b
        ·exact A k b
        ·exact⟨λc=>by have:=co.out k (.inl c);omega,λc=>by have:=co.out k (.inr c);omega,by omega,by omega,by omega,.inr (by omega),.inr (by omega)⟩
       have f9:=zD (show ∃(b1:Nat),Value.int I ((t:Int)+1)=.int I (b1:Int)/\b1<=p/\∃(f:NS) (F a5:Nat) (ao an:List Nat) (rest:List Tp.B),Row b9 (λk=>C<=k/\k < q) p (Y (W ⟨bn,di,O⟩) p ds) (al.map xR)/\Row b9 (λk=>C<=k/\k < q) p (Y (W ⟨hb,gx,O⟩) p e1) (xP D)/\EmW g (Y a g.length dp) b0 H N M m b9/\xW π 3 b9 m (yo an)/\(∀j,j∈an↔j∈ao)/\Tp.itemsL g a5 ad (Z.drop b1) ao=W (rest,c2)/\(∀j s,rest[j]? =W s->LS[F+j]? =W s)/\F+rest.length=E/\q<=b9.heap.size/\J F f b9/\(∀k,f k->¬H k/\¬N k/\k≠M/\¬k < 10/\k≠m/\(G k\/q<=k)/\(k < C\/q<=k))/\Far (λk=>G k\/k=m) w b9 from ⟨t+1,by go_num,b4,ei,u+1+S.length,dr,fT,kb,bm,T,a1,b3,g7,g8,ba,dl,be,by omega,ho,ch,ha⟩);clear a6 bw bq bx A ba dl be b3 e5 T a1 ha ch ho g8 g7 cT hJ gb f3 fY
       go_wp2_with fail
       go_roundw
       case rel=>exact f9.out
       case measure=>simp[Lib.intOf];omega
      ·have df:=zD g2
       clear g2 gb f3 fY
       go_wp2_with fail
       go_ret
       exact .inr ⟨rfl,ei,df.out⟩
    ·have df:=zD g3
     clear g3 bs ch ga b5 f7;refine r.out _ _ (λb=>absurd (by simp) b) ?_;clear r K
     (try go_frame)
     refine dQ [12] (by kernel_rfl) (by simp) ?_;refine yj.cons rfl (by kernel_rfl) (λK r=>?_) yj.nil
     go_simp
     refine r.out _ _ (λb=>absurd (by simp) b) ?_;clear r K
     (try go_frame)
     refine rD (by kernel_rfl) (NoPanic.normal ?_) _
     go_wp2_with fail
     go_ret
     exact .inr ⟨rfl,a3,df.out⟩
  ·obtain rfl:t=p:=by omega
   have mt:¬(t:Int) < (t:Int):=by omega
   rw[List.drop_eq_nil_of_le (by rw[hW.out.1];exact η _)]at X;obtain⟨rfl,rfl⟩:rest=[]/\ek=c2:=by
    cases e8 with
    |zero=>unfold Tp.itemsL at X;cases X
    |succ bD=>unfold Tp.itemsL at X;cases X;exact⟨rfl,rfl⟩
   have ks:u=E:=by simpa using b3
   rw[ks]at P;have df:=zD P;have d5:=zD (θ ej (θ dJ (θ d0 ep)));clear T a1 dA dJ ej X cl b3 P ep d0
   go_wp2_with fail
   go_ret
   exact .inl ⟨rfl,f,h4,df.out,d5.out.1,d5.out.2.1,d5.out.2.2.1,λk c=>((d5.out.2.2.2 k c).2.2.2.2.2.1).elim .inl (λb=>.inr (by omega))⟩
end
section
attribute [local go_sem] ak
theorem kX(g:List Tp.Nd)(v q:Value)(p o:NS)(n f B l:Nat)(LS:List Tp.B)(c:Nat->NS->World->Prop)(m:NS->World->Prop)(G:AU g)(L:f≠n)(C:10<=f)(N:∀k,p k\/o k->k≠f)
(E:∀t b a j,c t b a->Far (y8 (·=f) b B) a j->c t b j)(M:∀t b a,c t b a->B<=a.heap.size)(y:∀t b a,c t b a->∀k,b k->k < a.heap.size)
(A:∀t,t < LS.length->∀b u P a,c t b a->AR LS t P u a->(∀k,u k->¬b k/\k < a.heap.size)->YieldAt Fence.wide 3 π l P a λe j=>∃w,(Far b a j/\∀k,w k->b k\/u k\/a.heap.size<=k)/\((e=ρ (β true)/\c (t+1) w j)\/(e=ρ (β false)/\m w j))):∀d,Aw g v q p o n f l LS c m d
 |0=>ij g v q p o n f B l LS c m G L C N E M y A 0 (λi x r F k s z D H=>absurd (r x F k s z D) H)
 |d+1=>ij g v q p o n f B l LS c m G L C N E M y A (d+1) (λi x r F k s z D H=>⟨d,rfl,(r x F k s z D).resolve_left H,kX g v q p o n f B l LS c m G L C N E M y A d⟩)
def AJ(g:List Tp.Nd)(v:Value)(d:NS)(LS:List Tp.B):Prop:=∀(a:World) (b c e:Nat) (i:Value) (f:NS),yc a d g v->Glob a->(∀k,d k\/f k->k < a.heap.size/\k≠b)->a.heap[e]? =W (J #[.int I 0,v,i,.map (W b)] 198 (0,0))->a.heap[c]? =W (J #[.pointer (W ⟨e,0,O⟩)] 195 (0,0))->Row a f g.length i (xP ((List.range g.length).map (Tp.anchor g)))->xW π 3 a b []->10<=b->
 yQ π 131 #[.pointer (W ⟨c,0,O⟩)] 3 LS.length (AR LS) (·=b) (λk=>k=c\/k=e\/k < 10\/d k\/f k) True (λ_ _=>True) (λ_=>True) a
theorem vb(g:List Tp.Nd)(v:Value)(A:NS)(H:List Tp.B)(a9:List Nat)(x:Tp.Nd)(d:Nat)(a0:AU g)(F:g[0]? =W x)(bD:x.kids≠[])(c0:Tp.anchor g 0=0)(be:Tp.items g 1000 0 0 [0]=W (H,a9))(bw:dOk g d 0)(db:2 * d<=46):AJ g v A H:=by
 intro w f b5 z ab L b2 E C D u bq y cT;intro l J b9 r b o c5 hF0 T cS b0 bb bx;have S:z≠f:=λe=>by obtain⟨ch,cb,a,_⟩:=y.1;rw[e,a]at D;cases D
 have ct:b5≠f:=λe=>by obtain⟨ch,cb,a,_⟩:=y.1;rw[e,a]at u;cases u
 have m:EmW g v ab A L z f b:=⟨b2.below o,(o.block _ (lt_of_heap D)).trans D,E.step o,bq.below o⟩;have N:=(o.block _ (lt_of_heap u)).trans u;have ca:0 < g.length:=(zM.1 F).1;have a1:((List.range g.length).map (Tp.anchor g))[0]? =W 0:=by simp[ca,c0]
 have a4:=fi g v ab A L _ z f 0 0 [] x b m.gr F m.pr m.gl bD m.an a1 rfl (by omega) (by decide) (y.below o y.lt) (by simp) S.symm;have a5:=o.size;have bn:∀k,r k->¬A k/\¬L k/\k≠z/\¬k < 10/\k≠f:=λk q=>by
  have p:=hF0 k q;exact⟨λe=>p.2 (.inr (.inr (.inr (.inl e)))),λe=>p.2 (.inr (.inr (.inr (.inr e)))),λe=>p.2 (.inr (.inl e)),λe=>p.2 (.inr (.inr (.inl e))),p.1⟩
 have a6:=λi (P:Far (·=f) b i) (G:J 0 r i) (cv:xW π 3 i f (yo [0]))=>kX g v ab A L z f w.heap.size l H (λt c b=>J t c b/\w.heap.size<=b.heap.size) b9 a0 S.symm cT (λk q=>(C k q).2)
  (λt c b bs a n=>⟨T t c b bs a.1 n,Nat.le_trans a.2 n.size⟩) (λt c b a=>a.2) (λt c b a=>(b0 t c b a.1).2 trivial) (λt b6 c cc cm b G m E=>(by
   obtain⟨c1,cl,assign,body,cf,b8⟩:=bb t b6 c cc cm b G.1 m E;refine⟨c1,cl,assign,body,cf,b8.mono ?_⟩;rintro e bs ⟨bR,n,(⟨p,ck⟩|a)⟩
   ·exact⟨bR,n,.inl ⟨p,ck,Nat.le_trans G.2 n.1.size⟩⟩
   ·exact⟨bR,n,.inr a⟩)) d 1000 0 0 [0] [0] H a9 0 r i be bw (by omega) (λ_=>Iff.rfl) ⟨x,F,bD⟩ (m.far P (λk e=>by subst e;exact⟨λa=>(C _ (.inl a)).2 rfl,λa=>(C _ (.inr a)).2 rfl,S.symm,by omega⟩)) cv (λj s a=>by rw[Nat.zero_add];exact a) bn (λk q=>zK (C k q).1 (Nat.le_trans a5 P.size)) ⟨G,Nat.le_trans a5 P.size⟩
 have b3:∀i,Far (·=f) b i->J 0 r i:=λi n=>T 0 r b i bx (n.mono (λk _ e=>⟨λa=>(hF0 k a).1 e,.inl e⟩));have c4:=zF N 0 rfl;obtain⟨av,X,R,co⟩:=zx4 a4 a6 b3 N;clear a4 a6 b3 T cS b0 bb bx b2 F a0 D E C bq y hF0 bn o u N m a1 be bw
 go_enter func131,ntmps131
 go_wp2_with fail
 refine av.out.mono ?_;rintro e ad ⟨rfl,b1,ao⟩;have da:=wn 0 ⟨#[]⟩;have c9:=wm 0 ⟨#[]⟩;have a2:xR (yn 0)=.string ⟨#[]⟩:=rfl;rw[a2];have a3:=ao.heap co.out ct;have bk:Far (·=f) b (ad.alloc (.cells #[.int I 0,.string ⟨#[]⟩] 277)):=ao.alloc _;have ba:xW π 3 (ad.alloc (.cells #[.int I 0,.string ⟨#[]⟩] 277)) f (yo [0]):=b1.far ((ξ xO _).alloc _) id;have bm:=af ad (.cells #[.int I 0,.string ⟨#[]⟩] 277);obtain⟨c6,df,_⟩:=bO bm;have b4:=aa (.cells #[.int I 0,.string ⟨#[]⟩] 277) a3;have c3:=zF b4 0 rfl;obtain⟨M,al⟩:=zx2 bk ba;clear ao bk bm a3 b4 b1 ba a2 av
 go_wp2_with fail
 refine(X.out _ M.out (R.out _ M.out) al.out).mono ?_;rintro e dc (⟨rfl,c,c2,a,_⟩|⟨rfl,c,a⟩)
 ·have an:=zD a.1
  clear a X R M al
  go_wp2_with fail
  go_end0
  exact⟨⟨_,rfl⟩,.inl ⟨c,by have:=an.out;rw[Nat.zero_add]at this;exact this,trivial⟩⟩
 ·have an:=zD a
  clear a X R M al
  go_wp2_with fail
  go_end0
  exact⟨⟨_,rfl⟩,.inr ⟨c,an.out⟩⟩
end
section
attribute [local go_sem] ak
attribute [local go_sem] Oper.semAt_some
theorem mj(g:List Tp.Nd)(v:Value)(H:NS)(dJ:List Nat)(LS:List Tp.B)(w:World)(d0:yc w H g v)(dg:∀k,H k->k < w.heap.size)(b4:Glob w)(bm:yt g)(S:yR g)(T:Tp.tidy 0 g=W g)(fG:Tp.deepest g 1000 0 1 (List.replicate g.length 0)=W dJ)(b5:Tp.okGr 0 g=true)
(e6:∀i,i < g.length->dJ.getD i 0+(if (g.getD i ⟨0,Tp.Sc.null,[],[]⟩).kids.isEmpty then 0 else 1)<=24)(fc:Tp.places g<=200)(er:AJ g v H LS)(ei:(LS.flatMap (·++[10])).length<=8000):
 Calls π 61 #[γ #[.int I 0,v]] w λe w'=>(∃e8,e=ρ (.tuple #[e8,.int I 0])/\Row w' (New w) LS.length e8 (LS.map xR))/\Below w.heap.size w w':=by
 obtain⟨gO,fv,gc,g8,gZ⟩:=info_parts tV;obtain⟨l,ac⟩:∃l,w.heap.size=l:=⟨_,rfl⟩;have a5:=λc (b:Below l w c)=>d0.below (by rw[ac];exact b);have bR:=λc (b:Below l w c) k (R:H k)=>zK (dg k R) (Nat.le_trans (Nat.le_of_eq ac) (Nat.le_trans (Nat.le_of_eq ac.symm) b.size));have ba:=λc (b:Below l w c)=>b4.step (by rw[ac];exact b);have e4:=λc (b:Below l w c)=>il g v H c (a5 c b) (bR c b) (ba c b) bm S T;have ej:=λc (b:Below l w c)=>pg g v H dJ c (a5 c b) (bR c b) (ba c b) bm S T fG b5 e6;have c3:=λc (b:Below l w c)=>mZ g v H c (a5 c b) (bR c b) (ba c b) bm S T b5;have c4:=λc (b:Below l w c) av GA (g4:Row c GA g.length av (xP ((List.range g.length).map (Tp.anchor g))))=>oH g v av H GA c (a5 c b) (bR c b) (ba c b) bm S T b5 g4;have ge:=b4.1;have c5:=λc d bx pb av GA (b:Below l w c)=>er c d bx pb av GA (a5 c b) (ba c b);have d3:Below l w (w.alloc (J #[.int I 0,v] 54)):=(ζ _ w).alloc (by omega) _;have a3:=af w (J #[.int I 0,v] 54);rw[ac]at a3 ge;obtain⟨a,M,rfl,_⟩:=d0.form;have ep:∀k,H k->k < l:=λk R=>ac ▸ dg k R;obtain⟨f,f1⟩:∃f,g.length=f:=⟨_,rfl⟩;obtain⟨cv,fn,_⟩:=bO a3;obtain⟨d1,c0,c6,b2,cm,be⟩:=zx6 e4 ej c3 c4 c5 d3;obtain⟨b1,C,cl,dl⟩:=zx4 a3 ac ep ei;rw[f1]at d1 c0 c6 b2 cm be b1 cv fn ⊢;have gr:=fc;clear e4 ej c3 c4 c5 d3 a3 ep ei d0 dg b4 bm S T fG b5 e6 fc er a5 bR ba f1;obtain⟨he,gQ⟩:∃p,Tp.places g=p:=⟨_,rfl⟩;rw[gQ]at b2 gr;refine callsIn_wide.1 (callsIn_of_wp_marks (n:=5) func61 rfl trivial (wpIn_wide.2 ?_));simp only[ntmps61,List.size_toArray,zO,List.length_nil,Nat.reduceAdd,Nat.reduceSub,Array.replicate_succ,Array.replicate_zero,List.push_toArray,List.append_toArray,List.nil_append,List.cons_append]
 go_upto_region 1 with (fail)
 generalize (w.alloc (J #[.int I 0,Y a f M] 54))=hq at *;clear ac
 go_step3
 go_wp2_with fail
 refine(d1.out _ be.out).mono ?_;rintro e hx ⟨rfl,d2⟩;have hn:=be.out.size;have s:=be.out.trans (d2.mono (by have:=C.out;omega));have dv:=(d2.block _ (lt_of_heap b1.out)).trans b1.out;obtain⟨dm,c1,_⟩:=bO dv;obtain⟨a2,ct⟩:=zx2 s dv;clear s dv d2 cv fn d1 be b1
 go_wp2_with fail
 refine(c0.out _ a2.out).mono ?_;rintro e hD ⟨rfl,c2⟩;have r:=a2.out.trans (c2.mono (by have:=C.out;have:=a2.out.size;omega));have db:=(c2.block _ (lt_of_heap ct.out)).trans ct.out;obtain⟨cT,ds,_⟩:=bO db;obtain⟨a0,dW⟩:=zx2 r db;clear r db c2 dm c1 c0 a2 ct
 go_wp2_with fail
 refine(c6.out _ a0.out).mono ?_;rintro e gb ⟨⟨hr,rfl,ch⟩,da⟩;obtain⟨P,N,rfl,_⟩:=ch.form;have u:=a0.out.trans (da.mono (by have:=C.out;have:=a0.out.size;omega));have cS:=(da.block _ (lt_of_heap dW.out)).trans dW.out;obtain⟨dm,c1,_⟩:=bO cS;obtain⟨ad,df⟩:=zx2 u cS;have di:=zD (ch.mono (G':=λk=>l<=k/\k < gb.heap.size) (λk (s:_<=k) r=>⟨by have:=C.out;have:=a0.out.size;omega,r⟩));clear u cS da cT ds c6 a0 dW ch
 go_wp2_with fail
 refine(b2.out _ ad.out _ _ di.out).mono ?_;rintro e x ⟨rfl,b0⟩;have z:=ad.out.trans (b0.mono (by have:=C.out;have:=ad.out.size;omega));have eq:=(b0.block _ (lt_of_heap df.out)).trans df.out;have e0:=di.out.below b0;obtain⟨cT,ds,_⟩:=bO eq;have f7:=b0.size;have X:=zD z;have el:=zD (e0.mono (G':=λk=>l<=k/\k < x.heap.size) (λk s r=>⟨s.1,by omega⟩));clear f7;clear z eq b0 e0 dm c1 b2 ad df di;have g6:=@run_makeMap π;have g0:¬200 < (he:Int):=by omega
 go_wp2_with fail
 obtain⟨d,al⟩:∃m,x.heap.size=m:=⟨_,rfl⟩;have ab:Far xO x (((((x.alloc (.map #[] 0)).alloc (J #[.int I 0,Y a f M,Y P f N,.map (W d)] 198)).alloc (J #[Y O 0 0] 22)).alloc (J #[.int I 0] 3))):=((((ξ _ x).alloc _).alloc _).alloc _).alloc _;have d4:(((((x.alloc (.map #[] 0)).alloc (J #[.int I 0,Y a f M,Y P f N,.map (W d)] 198)).alloc (J #[Y O 0 0] 22)).alloc (J #[.int I 0] 3))).heap[d]? =W (.map #[] 0):=aa _ (aa _ (aa _ (by rw[<-al];exact af x _)));have en:(((((x.alloc (.map #[] 0)).alloc (J #[.int I 0,Y a f M,Y P f N,.map (W d)] 198)).alloc (J #[Y O 0 0] 22)).alloc (J #[.int I 0] 3))).heap[d+1]? =W (J #[.int I 0,Y a f M,Y P f N,.map (W d)] 198 (0,0)):=aa _ (aa _ (ah _ _ _ (by simp[al])));have fs:(((((x.alloc (.map #[] 0)).alloc (J #[.int I 0,Y a f M,Y P f N,.map (W d)] 198)).alloc (J #[Y O 0 0] 22)).alloc (J #[.int I 0] 3))).heap[d+2]? =W (J #[Y O 0 0] 22 (0,0)):=aa _ (ah _ _ _ (by simp[al]));have f3:(((((x.alloc (.map #[] 0)).alloc (J #[.int I 0,Y a f M,Y P f N,.map (W d)] 198)).alloc (J #[Y O 0 0] 22)).alloc (J #[.int I 0] 3))).heap[d+3]? =W (J #[.int I 0] 3 (0,0)):=ah _ _ _ (by simp[al]);have bD:(((((x.alloc (.map #[] 0)).alloc (J #[.int I 0,Y a f M,Y P f N,.map (W d)] 198)).alloc (J #[Y O 0 0] 22)).alloc (J #[.int I 0] 3))).heap.size=d+4:=by simp[al]
 have hz:l<=d:=by have:=C.out;have:=X.out.size;omega
 obtain⟨ft,e7,eg,e2⟩:=zx4 d4 en fs f3;have fX:=zD (((X.out.trans ((Far.to_below ab (η _) (λ_ _ e=>e)).mono (by omega)))):Below l w (((((x.alloc (.map #[] 0)).alloc (J #[.int I 0,Y a f M,Y P f N,.map (W d)] 198)).alloc (J #[Y O 0 0] 22)).alloc (J #[.int I 0] 3))));have dC:=zD (el.out.far ab (λ_ _ _ e=>e));rw[al]at dC;clear d4 en fs f3 ab el X cT ds g0;rw[al];generalize ((((x.alloc (.map #[] 0)).alloc (J #[.int I 0,Y a f M,Y P f N,.map (W d)] 198)).alloc (J #[Y O 0 0] 22)).alloc (J #[.int I 0] 3))=G at *;clear al g6;have a1:Far xO G (G.alloc (J #[.pointer (W ⟨d+1,0,O⟩)] 195)):=(ξ _ G).alloc _;have ca:Below l w (G.alloc (J #[.pointer (W ⟨d+1,0,O⟩)] 195)):=fX.out.trans ((Far.to_below a1 (η _) (λ_ _ e=>e)).mono (by omega));have e9:xW π 3 (G.alloc (J #[.pointer (W ⟨d+1,0,O⟩)] 195)) d []:=⟨⟨#[],0,a1.heap ft.out id,rfl⟩,by simp⟩;have fY:∀k,H k\/(l<=k/\k < d)->k < (G.alloc (J #[.pointer (W ⟨d+1,0,O⟩)] 195)).heap.size/\k≠d:=λk R=>by
  have hC:(G.alloc (J #[.pointer (W ⟨d+1,0,O⟩)] 195)).heap.size=d+5:=by simp[bD]
  rcases R with b|b
  ·have:=cl.out k b;omega
  ·omega
 have e3:=cm.out (G.alloc (J #[.pointer (W ⟨d+1,0,O⟩)] 195)) d (d+4) (d+1) (Y P f N) _ ca fY (a1.heap e7.out id) (ah _ _ _ bD.symm) (dC.out.far a1 (λ_ _ _ e=>e)) e9 (by omega);have fE:PnI l w (d+2) LS 0 (λk=>k=d+2\/k=d+2+1\/(Value.slice O 0 0).ownBlock=W k) (G.alloc (J #[.pointer (W ⟨d+1,0,O⟩)] 195)):=⟨z_ _,⟨O,0,0,λ_=>Iff.rfl,a1.heap eg.out id,a1.heap e2.out id,World.ownsRow_nil _ _ _ _⟩,ca⟩;have ek:(G.alloc (J #[.pointer (W ⟨d+1,0,O⟩)] 195)).heap.size=d+5:=by simp[bD]
 obtain⟨gk,f0,bn,hl⟩:=zx4 e3 fE ek ca;clear a1 ca fY e9 e3 fE ek ft e7 eg e2 fX dC cm
 go_step3
 go_wp2_with fail
 refine(my _ _).mono ?_;rintro e hm ⟨rfl,rfl⟩;rw[bD];generalize (G.alloc (J #[.pointer (W ⟨d+1,0,O⟩)] 195))=g1 at *;clear bD
 go_wp2_with fail
 obtain⟨q,a3⟩:∃q,d+2=q:=⟨_,rfl⟩;rw[a3]at f0;rw[show d+1+1+1=q+1 by omega,show d+1+1=q by omega];have dn:RowKit.Hid (g1.heap.size=q+3):=zD (by have:=bn.out;omega);refine wpIn_wide.1 (aC (n:=5) (gf:=131) (lb:=#[.pointer (W ⟨d+4,0,O⟩)]) rfl (λargs wx=>sk args wx)
  gk.out (λk e=>by have:=bn.out;omega) (λk e=>by have:=bn.out;rcases e with rfl|rfl|e|e|e;omega;omega;omega;(have:=cl.out k e;omega);omega) (λt v gd c b=>by obtain⟨⟨i,_,_,_,rfl⟩,_⟩:=b;rfl)
  (PnI l w q LS) (λ_ _ _=>False) (λk=>k=q\/k=q+1\/(Value.slice O 0 0).ownBlock=W k) (λk b=>?hF0) f0.out ?hI (λ_ _ _ _ b _=>b) (λ_ _ _ _=>trivial) (λ_ _ _ _=>trivial) ?round ?done (λ_ _ _ b=>b.elim))
 case hF0=>
  have R:k=q\/k=q+1:=by
   rcases b with b|b|b
   ·exact .inl b
   ·exact .inr b
   ·simp[Value.ownBlock]at b
  have:=bn.out;have ha:¬H k:=λe=>by have:=cl.out k e;omega
  exact⟨by omega,λe=>by rcases e with e|e|e|e|e;omega;omega;omega;exact ha e;omega,by omega,by omega,λ_=>by omega⟩
 case hI=>
  rintro t co c g5 ⟨c9,⟨y,L,E,F,s,r,u⟩,z⟩ S;refine⟨c9,⟨y,L,E,F,S.heap s (λe=>e.1 ((F q).2 (.inl rfl))),S.heap r (λe=>e.1 ((F (q+1)).2 (.inr (.inl rfl)))),am u S (λk e b=>b.1 ((F k).2 (.inr (.inr e))))⟩,z.trans (S.to_below (by have:=z.size;have:=C.out;omega) (λi fv e=>?_))⟩;have:=bn.out;rcases e.2 with b|b
  ·omega
  ·omega
 case round=>
  rintro t co gd g3 c K d5 eM ⟨c9,⟨y,L,E,F,s,r,u⟩,z⟩ ⟨⟨dr,fr,fl,ck,rfl⟩,rfl⟩ b4 a6 a4;have fw:=dn.out;rw[fw]at eM a6;unfold Al;obtain⟨o,a9⟩:∃o,xR dr=.string o:=⟨_,rfl⟩;have ex:o.size=dr.length:=by injection a9 with a9;rw[<-a9];rfl
  rw[a9]
  gi_wp2
  refine a4 _ _ ((ξ _ c).alloc _) ?_;intro ao bs _ _;rw[fw]at bs;have bq:Far (·=q+3+1) c ao:=((ξ xO c).alloc (J #[.string o,.int I fr,.int I fl] 203) |>.mono (λ_ _ e=>e.elim)).trans bs;have bb:=bs.heap (af c (J #[.string o,.int I fr,.int I fl] 203)) (by omega);generalize hp:c.heap.size=p at bb ⊢;rw[hp]at eM;have cf:=bq.heap s (by omega);have cc:=bq.heap r (by omega);have bw:=am u bq (λk e b=>by have:=(a6 k ((F k).2 (.inr (.inr e)))).2.1;omega);have fR:=z.trans (bq.to_below (by have:=z.size;have:=C.out;omega) (λk R e=>by omega));obtain⟨A,bk⟩:∃A,lenTo LS t=A:=⟨_,rfl⟩;have b6:=ig LS t dr ck;have b9:=Nat.le_trans (cY LS (t+1)) dl.out;rw[bk]at b6 cc;rw[b6]at b9;have fz:=zF cf 0 rfl;have ho:=zF bb 0 rfl;have fS:(LS.take (t+1)).map xR=(LS.take t).map xR++[.string o]:=by rw[zG,ck];simp[a9]
  have fL:∀k,(Value.slice y L E).ownBlock=W k->q+2<=k/\k < ao.heap.size:=λk e=>bw.lt k e;have f2:∀k,(Value.slice y L E).ownBlock=W k->k≠p:=λk e=>by have:=u.lt k e;omega
  have hj:=bs.size;have hi:=lt_of_heap bb;have gj:=lt_of_heap cf;have gx:=lt_of_heap cc;obtain⟨a2,a0,ad,X,hf,hb⟩:=zx6 cf cc bw fR bb fS;obtain⟨dp,gR,an,f5⟩:=zx4 fL f2 F b6;have hk:IntKind.i64.wrap ((o.size:Int)+1)=(o.size:Int)+1:=zU _ (by omega);have hg:IntKind.i64.wrap ((A:Int)+((o.size:Int)+1))=(A:Int)+((o.size:Int)+1):=zU _ (by omega);have gJ:¬8000 < (A:Int)+((o.size:Int)+1):=by omega
  rw[<-ex]at f5;have hu:t < LS.length:=d5;have ht:t<=8000:=by
   have s:=cY LS LS.length;have r:=dl.out;have:=nE LS;omega
  clear s r u z cf cc bw fR bb fS bs a4 a6 ck fL f2 F b6 bq bk hp a9 b9 ex
  gi_wp2_with (gi_at_builtin;refine wpListIn_append_own_at _ rfl (.tmp 32) (.tmp 35) 22 rfl (q+2) 9 gO _ 1 16 underlying22 fv gc g8 gZ rfl (by decide) (Y y L E) t _ rfl (ad.out.alloc _) ⟨ao.heap.size,0,O⟩ 1 1 [.string o] rfl rfl (λj g3 f8=>by rw[gK];exact(ae (af ao _) j).trans (by simpa using f8)) (by simp[Value.oneCell']) (by unfold maxLen;omega) (by omega) (by simp;omega) ?_;intro hy w5 dj f4 _ fu;obtain⟨gg,cap,rfl,hw,_⟩:=aA dj;have ab:Far (λk=>(Value.slice y L E).ownBlock=W k) ao w5:=(((ξ (λk=>(Value.slice y L E).ownBlock=W k) ao).alloc _).grown f4 (λk e _=>e));have b3:=ab.heap a2.out (λe=>by have:=(dp.out q e).1;omega);have hh:w5.cell? ⟨q,0,O⟩=W (Y y L E):=ae b3 0;have cv:w5.frozen? ⟨q,0,O⟩=false:=ag b3 0;have T:Far (·=q) w5 (w5.setCell ⟨q,0,O⟩ (Y (W ⟨gg,0,O⟩) (t+1) cap)):=Far.setCell (D:=(·=q)) (ξ _ _) (p:=⟨q,0,O⟩) (λ_=>rfl) _;have b8:=T.heap (ab.heap a0.out (λe=>by have:=(dp.out _ e).1;omega)) (by omega);have fT:=T.heap (ab.heap hf.out (λe=>gR.out _ e rfl)) (by omega);have hs:(w5.setCell ⟨q,0,O⟩ (Y (W ⟨gg,0,O⟩) (t+1) cap)).cell? ⟨q+1,0,O⟩=W (.int I (A:Int)):=ae b8 0;have hv:(w5.setCell ⟨q,0,O⟩ (Y (W ⟨gg,0,O⟩) (t+1) cap)).frozen? ⟨q+1,0,O⟩=false:=ag b8 0;have hB:(w5.setCell ⟨q,0,O⟩ (Y (W ⟨gg,0,O⟩) (t+1) cap)).cell? ⟨p,0,O⟩=W (.string o):=ae fT 0;have gM:=zD b3;have g2:=zD ab;have f9:=zD dj;have f6:=zD fu;have gl:=zD b8;have e5:=zD T;clear b3 ab dj f4 fu b8 fT T)
  have dA:Far (·=q+1) (w5.setCell ⟨q,0,O⟩ (Y (W ⟨gg,0,O⟩) (t+1) cap)) ((w5.setCell ⟨q,0,O⟩ (Y (W ⟨gg,0,O⟩) (t+1) cap)).setCell ⟨q+1,0,O⟩ (.int I ((A:Int)+((o.size:Int)+1)))):=Far.setCell (D:=(·=q+1)) (ξ _ _) (p:=⟨q+1,0,O⟩) (λ_=>rfl) _;have d6:gg≠q/\gg≠q+1:=by omega
  have dc:=am (am f9.out e5.out (λk e b=>by injection e with e;exact d6.1 (e.trans b))) dA (λk e b=>by injection e with e;exact d6.2 (e.trans b));rw[<-hb.out]at dc;have cb:=((g2.out.mono (D':=co) (λk _ e=>(an.out k).2 (.inr (.inr e)))).step e5.out (λk _ e=>(an.out k).2 (.inl e))).step dA (λk _ e=>(an.out k).2 (.inr (.inl e)));have hd:gg < w5.heap.size:=(dc.lt gg rfl).2 |> λb=>by simpa [World.setCell]using b
  have hc:(Value.slice y L E).ownBlock=W gg\/ao.heap.size<=gg:=by
   rcases f6.out with b|b
   ·left;rw[<-b];rfl
   ·right
    simp[Value.ownBlock]at b
    omega
  have g7:((lenTo LS (t+1):Nat):Int)=(A:Int)+((o.size:Int)+1):=by rw[f5.out];omega
  refine⟨λk=>k=q\/k=q+1\/(Value.slice (W ⟨gg,0,O⟩) (t+1) cap).ownBlock=W k,⟨d5,⟨_,_,_,λ_=>Iff.rfl,dA.heap (ai gM.out 0 _) (by omega),by rw[g7];exact ai gl.out 0 _,dc⟩,X.out.trans (cb.to_below (by have:=X.out.size;have:=C.out;omega) (λk R e=>by
   rcases (an.out k).1 e with b|b|b
   ·omega
   ·omega
   ·have:=(dp.out k b).1;omega))⟩,cb,λk b=>?_⟩
  rcases b with rfl|rfl|b
  ·exact⟨.inl ((an.out k).2 (.inl rfl)),λ_=>zK gj cb.size⟩
  ·exact⟨.inl ((an.out (q+1)).2 (.inr (.inl rfl))),λ_=>zK gx cb.size⟩
  ·simp[Value.ownBlock]at b
   subst b;refine⟨?_,λ_=>by simpa [World.setCell]using hd⟩;rcases hc with b|b
   ·exact .inl ((an.out gg).2 (.inr (.inr b)))
   ·exact .inr (.inr (by omega))
 case done=>
  rintro co c ⟨c9,⟨y,L,E,F,s,r,u⟩,z⟩ _ a4 a6;rw[dn.out]at a4 ⊢;rw[List.take_length]at u;have b9:=Nat.le_trans (cY LS LS.length) dl.out;obtain⟨A,bk⟩:∃A,lenTo LS LS.length=A:=⟨_,rfl⟩;rw[bk]at r b9;have gJ:¬8000 < (A:Int):=by omega
  have fz:=zF s 0 rfl;have hA:=zF r 0 rfl;have es:∀k,(Value.slice y L E).ownBlock=W k->k≠q+3:=λk e=>by have s:=a6 k ((F k).2 (.inr (.inr e)));have:=dn.out;omega
  have e1:=cz u;rw[e1]at u es fz;clear F a6 s;obtain⟨ad,X,gN⟩:=zx3 u z a4;clear r u z a4 bk e1
  go_wp2_with fail
  refine au (q:=q+3) rfl gN.out ?_;intro g5 ef;have bw:=am ad.out ef (λk e b=>es k e b);refine⟨.tuple #[Y y LS.length E,.int I 0],by simp[results,results61,go_sem],⟨_,rfl,(az bw).mono (G':=New w) (λk (R:q+2<=k) _=>by have:=C.out;show w.heap.size<=k;omega)⟩,?_⟩;have ga:=X.out.trans (ef.to_below (by have:=X.out.size;have:=C.out;omega) (λk R e=>by omega));rw[C.out];exact ga
end
section
attribute [local go_sem] ak
structure PrG(g:List Tp.Nd)(ds:List Nat)(LS:List Tp.B):Prop where
 good:yt g
 few:yR g
 tidy:Tp.tidy 0 g=W g
 deep:Tp.deepest g 1000 0 1 (List.replicate g.length 0)=W ds
 ok:Tp.okGr 0 g=true
 d24:∀i,i < g.length->ds.getD i 0+(if (g.getD i ⟨0,Tp.Sc.null,[],[]⟩).kids.isEmpty then 0 else 1)<=24
 pl:Tp.places g<=200
 root:∀v GG,AJ g v GG LS
 size:(LS.flatMap (·++[10])).length<=8000
theorem ut(g:List Tp.Nd)(v:Value)(y:NS)(bq:List Nat)(LS:List Tp.B)(w:World)(R:yc w y g v)(a6:∀k,y k->k < w.heap.size)(ab:Glob w)(j:PrG g bq LS):
 Calls π 38 #[γ #[V I 0,v]] w λe w'=>e=ρ (.tuple #[xR (LS.flatMap (·++[10])),V I 0])/\Below w.heap.size w w':=by
 have q:Below w.heap.size w (w.alloc (J #[V I 0,v] 54)):=(ζ _ w).alloc (η _) _;have F:=mj g v y bq LS _ (R.below q) (λk s=>zK (a6 k s) q.size) (ab.step q) j.good j.few j.tidy j.deep j.ok j.d24 j.pl (j.root v y) j.size;have E:=j.size;obtain⟨a,cm,rfl,_⟩:=R.form;obtain⟨d,T⟩:∃d,LS.length=d:=⟨_,rfl⟩;rw[T]at F;have cT:d<=8000:=by
  have P:=nE LS;have b5:=cY LS LS.length;omega
 obtain⟨bw,N,bk,be⟩:=zx4 F q E T;clear F q E R a6 ab j T;generalize g.length=cl at *;generalize hTX:xR (LS.flatMap (·++[10]))=TX
 go_enter func38,ntmps38
 go_wp2_with fail
 refine bw.out.mono ?_;rintro e o ⟨⟨cv,rfl,n⟩,bx⟩;obtain⟨av,al,rfl,_⟩:=n.form;have L:=N.out.trans (bx.mono N.out.size);have m:=bo o;have r:=L.size;have c:Below w.heap.size w (o.alloc (J #[Z O,Y O 0 0] 38)):=L.alloc r _;have b0:=n.far ((ξ xO o).alloc (J #[Z O,Y O 0 0] 38)) (λ_ _ _ e=>e);obtain⟨b,C⟩:∃b,o.heap.size=b:=⟨_,rfl⟩;have bR:(o.alloc (J #[Z O,Y O 0 0] 38)).heap.size=b+1:=by simp[C]
 rw[C]at m r;have a5:=zD (n.mono (G':=λk=>k < b) (λk _ s=>by rw[<-C];exact s));have bn:=zD ((a5.out.far ((ξ xO o).alloc (J #[Z O,Y O 0 0] 38)) (λ_ _ _ e=>e)));obtain⟨b8,a1⟩:=zx2 c m;clear n bx L c m bw N b0 a5
 go_wp2_with fail
 generalize (o.alloc (J #[Z O,Y O 0 0] 38))=c1 at *
 go_loopw [16] (λG wr=>∃t:Nat,G=V I (t:Int)/\t<=d/\Lib.IsBuilderF 38 5 b b (Lib.byteCells ((LS.take t).flatMap (·++[10]))) wr/\Row wr (λk=>k < b) d (Y av d al) (LS.map xR)/\Below w.heap.size w wr/\b+1<=wr.heap.size) (λG _=>d - (Lib.intOf G).toNat)
 case atStart=>exact⟨0,rfl,z_ _,a1.out,bn.out,b8.out,by omega⟩
 case round=>
  obtain⟨t,rfl,ct,m,n,u,E⟩:=hrel;by_cases ao:t < d
  ·obtain⟨l,x⟩:∃l,LS[t]? =W l:=⟨_,zE (by rw[be.out];exact ao)⟩
   obtain⟨c5,cf,b4,b9,ad,a9,X,A⟩:=n;have z:(LS.map xR)[t]? =W (xR l):=by rw[List.getElem?_map,x];rfl
   obtain⟨rfl,c2,ba⟩:=A (λe=>by rw[e]at z;simp at z);have n:Row wr (λk=>k < b) d (Y av d al) (LS.map xR):=⟨_,cf,b4,b9,ad,a9,X,A⟩;injection ad with e11 e12 e13;clear e12;subst e11 e13;have cb:=ba t _ z;obtain⟨f,S⟩:∃f,xR l=U f:=⟨_,rfl⟩;have an:(⟨l.toArray⟩:ByteArray)=f:=by injection S
   rw[S]at cb;have cc:l.length<=8000:=by
    have P:=ig LS t l x;have b5:=cY LS (t+1);have b1:=bk.out;omega
   have c3:f.size<=8000:=by rw[<-an];exact cc
   have c6:(f++(⟨#[10]⟩:ByteArray)).size<=maxLen:=by rw[zX];unfold maxLen;show f.size+1<=_;omega
   have co:f.size+1<=maxLen:=by unfold maxLen;omega
   have ck:f.size+1<=9223372036854775807:=by omega
   have cS:¬9223372036854775807 < f.size+1:=by omega
   have ca:(Lib.byteCells ((LS.take t).flatMap (·++[10]))).length<=8000:=by
    rw[Lib.byteCells_length,<-iO];have P:=cY LS t;unfold lenTo at P;have b1:=bk.out;omega
   have M:=fa b b _ (f++(⟨#[10]⟩:ByteArray)) wr m (by rw[zX];have:(⟨#[10]⟩:ByteArray).size=1:=rfl;omega) (by omega);have bs:Lib.byteCells ((LS.take t).flatMap (·++[10]))++Lib.strCells (f++(⟨#[10]⟩:ByteArray))=Lib.byteCells ((LS.take (t+1)).flatMap (·++[10])):=by
    rw[zG,x,List.flatMap_append,<-an];unfold Lib.strCells Lib.byteCells;rw[List.map_append];congr 1
    simp
   rw[bs]at M;have b2:(t:Int) < (d:Int):=by omega
   have c4:(0:Int)<=(t:Int):=by omega
   obtain⟨a4,bb,p,b6⟩:=zx4 M n u m;clear M bs m n u a9 X A ba z S x ca
   go_wp2_with fail
   refine a4.out.mono ?_;rintro e a0 ⟨rfl,ac,c,_⟩;have bR:=c.size;have bm:=bb.out.far (D:=λk=>b<=k) ⟨c.os,c.tape,c.output,c.size,λi c0 ch=>c.block i (Nat.lt_of_not_le ch)⟩ (λk s _ e=>by omega);have a3:=p.out.trans (c.mono r);have H:=zD (θ (show Lib.IsBuilderF 38 5 b b _ a0 from .inr ac) (θ bm a3));clear ac c bm a3 a4 bb p b6
   go_wp2_with fail
   go_roundw
   case rel=>exact⟨t+1,by go_num,ao,H.out.1,H.out.2.1,H.out.2.2,by omega⟩
   case measure=>simp[Lib.intOf];omega
  ·obtain rfl:t=d:=by omega
   have b2:¬(t:Int) < (t:Int):=by omega
   rw[zR (by rw[be.out];omega)]at m;have a2:=Tryz.Builder_String_any_f b b _ wr m (by omega);obtain⟨bD,p⟩:=zx2 a2 u;clear a2 u m n a1 bn
   go_wp2_with fail
   refine bD.out.mono ?_;rintro e a0 ⟨rfl,_,c⟩;have b3:=p.out.trans (c.mono r);clear c bD p;unfold xR at hTX;rw[hTX]
   go_wp2_with fail
   go_ret2
   exact⟨rfl,b3⟩
theorem nh(g:List Tp.Nd)(a:List Nat)(LS:List Tp.B)(e:PrG g a LS):zm g (LS.flatMap (·++[10])):=λi c d f j b=>ut g d c a LS i f j b e
end
structure yd(n:Nat)(x:Tp.Nd):Prop where
 sc:x8 x.x=true/\x.x.s.length<=100
 keys:∀y∈x.keys,x8 y=true/\y.s.length<=100
 kl:x.keys.length < 20
 kk:x.k=2->x.keys.length=x.kids.length
 k0:x.k=0->x.kids=[]
 kr:0<=x.k/\x.k<=2
 kid:∀k∈x.kids,k < n
 kidl:x.kids.length<=100
theorem iy:∀(a n:Nat),(Tp.digits a n).length<=a
 |0,_=>η _
 |a+1,n=>by
  unfold Tp.digits;split
  ·simp
  ·have:=iy a (n / 10);simp;omega
theorem jg(n:Int):(Tp.itoa n).length<=21:=by
 unfold Tp.itoa;have:=iy 20 n.natAbs;split<;>simp<;>omega
theorem gV(a:Tp.Sc)(d:a.s.length<=100):(Tp.scText a).length<=500:=by
 unfold Tp.scText;have b:=jg a.n;have c:=Tp.aD a.s;split
 ·decide
 ·split
  ·split<;>decide
  ·split<;>omega
theorem ii(x:Tp.Nd):∀b∈Tp.keysOf x,b∈x.keys:=by
 intro b a;unfold Tp.keysOf Tp.pairs at a;split at a
 ·obtain⟨p,c,rfl⟩:=List.mem_map.1 a
  have:=(Tp.cW (x.keys.zip x.kids)).2 p;exact(List.of_mem_zip (this.1 c)).1
 ·simp at a
theorem oZ(x:Tp.Nd):(Tp.keysOf x).length<=x.keys.length:=by
 unfold Tp.keysOf Tp.pairs;split
 ·rw[List.length_map,(Tp.cW _).1,List.length_zip];omega
 ·simp
theorem kD(x:Tp.Nd)(a:x.k≠1):(Tp.keysOf x).length=(Tp.kidsOf x).length:=by
 unfold Tp.keysOf Tp.kidsOf;rw[if_neg a,List.length_map,List.length_map]
theorem et:∀(a:List Tp.B) (m:Nat),(∀l∈a,l.length<=m)->(commas a).length<=a.length * (m+1)
 | [],m,_=>by simp[commas]
 |l::r,m,h=>by
  have d:=h l (by simp);have b:=et r m (λx c=>h x (by simp[c]));unfold commas at b ⊢;rw[List.flatMap_cons,zP,zP,show (l::r).length=r.length+1 from rfl,Nat.add_mul];simp only[zO,List.length_nil];omega
theorem yd.good{n:Nat}{x:Tp.Nd}(a:yd n x):Ah x:=⟨⟨a.sc.1,Nat.le_trans a.sc.2 (by omega)⟩,λb c=>⟨(a.keys b c).1,Nat.le_trans (a.keys b c).2 (by omega)⟩⟩
theorem yd.few{n:Nat}{x:Tp.Nd}(a:yd n x):yx x:=⟨a.kl,a.kk,Nat.le_trans a.kidl (by omega)⟩
theorem yd.ks{n:Nat}{x:Tp.Nd}(b:yd n x):∀a∈Tp.keysOf x,x8 a=true/\a.s.length<=1000:=λa c=>b.good.2 a (ii x a c)
theorem yd.kt{n:Nat}{x:Tp.Nd}(b:yd n x):∀a∈Tp.keysOf x,(Tp.scText a).length<=500:=λa c=>gV a (b.keys a (ii x a c)).2
theorem yd.s1{n:Nat}{x:Tp.Nd}(a:yd n x):(commas ((Tp.keysOf x).map Tp.scText)).length<=1000000:=by
 have e:=et ((Tp.keysOf x).map Tp.scText) 500 (λl c=>by obtain⟨b,d,rfl⟩:=List.mem_map.1 c;exact a.kt b d);have f:=oZ x;have i:=a.kl;rw[List.length_map]at e;have g:=Nat.mul_le_mul_right 501 (show (Tp.keysOf x).length<=20 by omega);omega
theorem yd.s2{n:Nat}{x:Tp.Nd}(b:yd n x)(a:List Nat):(commas ((Tp.kidsOf x).map λk=>Tp.itoa ((a.getD k 0:Nat):Int))).length<=1000000:=by
 have d:=et ((Tp.kidsOf x).map λk=>Tp.itoa ((a.getD k 0:Nat):Int)) 21 (λl c=>by obtain⟨e,i,rfl⟩:=List.mem_map.1 c;exact jg _);have f:=bI x;have j:=b.kidl;rw[List.length_map]at d;have g:=Nat.mul_le_mul_right 22 (show (Tp.kidsOf x).length<=100 by omega);omega
theorem mf(x:Tp.Sc)(a:x8 x=true):(0<=x.k/\x.k<=3)/\-999999999999999<=x.n/\x.n<=999999999999999:=by
 unfold x8 at a;split at a
 ·simp at a;omega
 ·split at a
  ·simp at a;omega
  ·split at a
   ·simp at a;omega
   ·split at a
    ·simp at a;omega
    ·cases a
theorem qm(g:List Tp.Nd)(c:∀x∈g,yd g.length x):Ag g:=by
 intro d _ _;refine⟨λx b=>⟨(c x b).few,λk e=>(c x b).kid k (bj x k e),(c x b).ks,(c x b).s1,(c x b).s2 d⟩,λs a=>?_⟩;obtain⟨x,b,rfl⟩:=List.mem_map.1 a;have a:=c x b;obtain⟨l,j,m⟩:=mf x.x a.sc.1;have e:=a.kr;have f:(Tp.say d x).2.2.1=commas ((Tp.keysOf x).map Tp.scText):=by unfold commas Tp.say;rw[List.flatMap_map]
 have i:(Tp.say d x).2.2.2=commas ((Tp.kidsOf x).map λk=>Tp.itoa ((d.getD k 0:Nat):Int)):=by unfold commas Tp.say;rw[List.flatMap_map]
 unfold yM;rw[f,i];exact wO _ _ _ _ _ _ (uO _ (by show _<=x.k;omega) (by show x.k<=_;omega)) (uO _ (by show _<=x.x.k;omega) (by show x.x.k<=_;omega)) (uO _ (by show _<=x.x.n;omega) (by show x.x.n<=_;omega)) (by show x.x.s.length<=_;have:=a.sc.2;unfold maxLen;omega) (by have:=a.s1;unfold maxLen;show (commas _).length<=_;omega) (by have:=a.s2 d;unfold maxLen;show (commas _).length<=_;omega)
theorem sM(g:List Tp.Nd)(i:Nat):Tp.anchor g i<=i+1:=by
 unfold Tp.anchor;split
 ·exact Nat.le_trans (List.length_filter_le _ _) (by simp)
 ·omega
theorem vB(g:List Tp.Nd)(hl:g.length<=200)(h:∀x∈g,yd g.length x):AU g where
 good:=λx hx=>(h x hx).good
 few:=λx hx=>(h x hx).few
 keys:=λx hx y hy=>⟨(h x hx).ks y hy,Nat.le_trans ((h x hx).kt y hy) (by omega)⟩
 kind:=λx hx hk=>by
  have h1:=(h x hx).kr;have h2:=(h x hx).k0;by_cases h3:x.k=0
  ·exact absurd (h2 h3) hk
  ·omega
 leaf:=λx hx _=>⟨(h x hx).kr,(h x hx).good.1,by
  have:=gV x.x (h x hx).sc.2;unfold Tp.nodeWord;split
  ·omega
  ·split<;>simp⟩
 len:=λx hx=>by
  unfold Tp.headsOf;by_cases h1:x.k=1
  ·rw[if_pos h1];unfold Tp.kidsOf;rw[if_pos h1,List.length_map]
  ·rw[if_neg h1,List.length_map,kD x h1]
 heads:=λx hx l hl=>by
  unfold Tp.headsOf at hl;split at hl
  ·obtain⟨_,_,rfl⟩:=List.mem_map.1 hl;simp
  ·obtain⟨y,hy,rfl⟩:=List.mem_map.1 hl
   have:=(h x hx).kt y hy;simp;omega
 kl:=λx hx=>by have h1:=bI x;have h2:=(h x hx).kidl;omega
 kid:=λx hx k hk=>(h x hx).kid k (bj x k hk)
 anc:=λi hi=>by
  have h1:=sM g i;have h2:=jg ((Tp.anchor g i:Nat):Int);refine⟨by omega,?_⟩;unfold yn;split
  ·simp
  ·simp;omega
theorem nO(g:List Tp.Nd)(b:g.length<=200)(a:∀x∈g,yd g.length x):yR g:=⟨λx c=>(a x c).few,b⟩
theorem kO(g:List Tp.Nd)(a:∀x∈g,yd g.length x):yt g:=λx b=>(a x b).good
theorem qD(g e:List Tp.Nd)(a:List Nat)(j:g.length<=200)(c:∀x∈g,yd g.length x)(d:∀x∈Tp.whole g a,yd g.length x)(n:(Tp.whole g a).length<=200)(f:Tp.okGr 0 g=true)(r:Tp.classes g=W a)(o:a.length=g.length)(l:∀m∈a,m < g.length)(p:a[0]? =W 0)(q:Tp.tidy 0 (Tp.whole g a)=W e):QOk g a e:=
 ⟨kO g c,nO g j c,f,qm g c,r,o,l,λx b k i=>(c x b).kid k (bj x k i),p,q,λx b=>(d x b).good,⟨λx b=>(d x b).few,n⟩⟩
theorem uB(g:List Tp.Nd)(b:List Nat)(a:List Tp.B)(e:List Nat)(x:Tp.Nd)(d:Nat)(f:g.length<=200)(c:∀x∈g,yd g.length x)(u:Tp.okGr 0 g=true)(n:Tp.tidy 0 g=W g)(j:Tp.deepest g 1000 0 1 (List.replicate g.length 0)=W b)(s:∀i,i < g.length->b.getD i 0+(if (g.getD i ⟨0,Tp.Sc.null,[],[]⟩).kids.isEmpty then 0 else 1)<=24)(m:Tp.places g<=200)(t:g[0]? =W x)(o:x.kids≠[])(q:Tp.anchor g 0=0)(r:Tp.items g 1000 0 0 [0]=W (a,e))(l:dOk g d 0)(k:2 * d<=46)(p:(a.flatMap (·++[10])).length<=8000):PrG g b a:=
 ⟨kO g c,nO g f c,n,j,u,s,m,λv w=>vb g v w a e x d (vB g f c) t o q r l k,p⟩
section
theorem jX:x8 Tp.Sc.null=true/\Tp.Sc.null.s.length<=100:=⟨by decide,by decide⟩
open Tp in
theorem ea (n:Nat) (ks:List Nat) (h:∀k∈ks,k < n) (hl:ks.length<=100):yd n ⟨1,Sc.null,[],ks⟩ where
 sc:=jX
 keys:=λy hy=>by simp at hy
 kl:=by simp
 kk:=λe=>by simp at e
 k0:=λe=>by simp at e
 kr:=by simp
 kid:=h
 kidl:=hl
end
end Go.Proofs.YtbikgdhbiebhcaaGreatDoor
