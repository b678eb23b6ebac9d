/- Part 5. -/
import Derived.Test.YtbikgdhbiebhcaaGreatDoorV04
import Derived.Deep.AppendLies
set_option linter.unusedVariables false
set_option linter.unusedSimpArgs false
set_option maxRecDepth 100000
set_option maxHeartbeats 2000000
open Go.Value renaming int -> V, string -> U, slice -> Y, pointer -> Z, func -> φ, agg -> γ, bool -> β
open Go.IntKind renaming i64 -> I
open Option renaming some -> W, none -> O
open Go.Obj renaming cells -> J
open Go.Ending renaming returned -> ρ
open Go.Proofs.Tryz renaming prog -> π
open Nat renaming le_refl -> η
open Go.RowKit.Below renaming refl -> ζ
namespace Go.Proofs.YtbikgdhbiebhcaaGreatDoor
open Go.RowKit Tryz
def TkS(w:World)(v:Value)(a:List Tp.Tk):Prop:=∃b g o cap,v=Y b a.length cap/\a.length<=cap/\RA w b g o (xZ a)
theorem TkS.keep{w w':World}{v:Value}{a:List Tp.Tk}(c:TkS w v a)(f:Below w.heap.size w w'):TkS w' v a:=by
 obtain⟨b,g,o,cap,e,d,i⟩:=c;exact⟨b,g,o,cap,e,d,i.keep f⟩
theorem bE:∀(a:List Tp.Tk) (i:Nat) (t:Tp.Tk),a[i]? =W t->(xZ a)[i * 3]? =W (V I t.k)/\(xZ a)[i * 3+1]? =W (xR t.s)/\(xZ a)[i * 3+2]? =W (V I (t.a:Int))
 | [],i,t,h=>by simp at h
 |x::r,0,t,h=>by simp at h;subst h;exact⟨rfl,rfl,rfl⟩
 |x::r,i+1,t,h=>by
  have:=bE r i t (by simpa using h);rw[show xZ (x::r)=[V I x.k,xR x.s,V I (x.a:Int)]++xZ r from rfl];rw[show (i+1) * 3=3+i * 3 by omega,show 3+i * 3+1=3+(i * 3+1)by omega,show 3+i * 3+2=3+(i * 3+2)by omega];simp only[zV (show [Value.int I x.k,xR x.s,V I (x.a:Int)].length<=3+_ from Nat.le_add_right 3 _),zO,List.length_nil,Nat.zero_add,Nat.reduceAdd,Nat.add_sub_cancel_left];exact this
def zf(t:Tp.Tk):Prop:=t.s.length<=1000/\(t.k=2->Ln.right t.s=true)
theorem rk(t:Tp.Tk)(R:zf t)(x:Tp.Sc)(d:Tp.fkey t=W x)(w:World)(H:Glob w):Calls π 237 #[tkV t] w (yK w x):=by
 obtain⟨k,s,a⟩:=t;obtain⟨E,v⟩:=R;simp only at E v;unfold Tp.fkey at d;simp only at d;unfold tkV;simp only;obtain⟨c,q⟩:∃c:ByteArray,(⟨s.toArray⟩:ByteArray)=c:=⟨_,rfl⟩;have y:xR s=U c:=by rw[<-q];rfl
 have l:c.data.toList=s:=by rw[<-q]
 have ad:c.size<=1000:=by rw[<-ap,l];exact E
 rw[y];generalize (a:Int)=A;have D:Below w.heap.size w ((w.alloc (J #[V I k,U c,V I A] 305)).alloc (J #[V I 0,V I 0,U ⟨#[]⟩] 30)):=((ζ _ w).alloc (η _) _).alloc (by simp) _;have G:((w.alloc (J #[V I k,U c,V I A] 305)).alloc (J #[V I 0,V I 0,U ⟨#[]⟩] 30)).heap[w.heap.size]? =W (J #[V I k,U c,V I A] 305 (0,0)):=aa _ (af w _);have z:((w.alloc (J #[V I k,U c,V I A] 305)).alloc (J #[V I 0,V I 0,U ⟨#[]⟩] 30)).heap[w.heap.size+1]? =W (J #[V I 0,V I 0,U ⟨#[]⟩] 30 (0,0)):=ah _ _ _ (by simp);obtain⟨g,L,m,C⟩:=zx4 D G z H;clear D G z H q y;by_cases u:k=1
 ·subst u
  rw[if_pos rfl]at d;have i:=mh c x (by omega) (by rw[l];exact j2 _ _ d) _ (C.out.step g.out);have p:=zD i;clear i
  go_enter func237,ntmps237
  go_wp2_with fail
  refine p.out.mono ?_;rintro e P ⟨rfl,f⟩;have b:=(f.block _ (lt_of_heap m.out)).trans m.out;have j:=g.out.trans (f.mono g.out.size);have X:=zF b 0 rfl;have T:=zF b 1 rfl;have M:=zF b 2 rfl;have ab:=ag b 0;have S:=ag b 1;have ac:=ag b 2;obtain⟨n,o⟩:=zx2 b j;clear b j f;unfold scV
  go_wp2_with fail
  exact bodyPost_ret (cw results237 _ (w.heap.size+1) _ _ _ _ (ai (ai (ai n.out 0 _) 1 _) 2 _) rfl) rfl ⟨rfl,((o.out.setCell (Nat.le_succ _) _).setCell (Nat.le_succ _) _).setCell (Nat.le_succ _) _⟩
 rw[if_neg u]at d;by_cases r:k=2
 ·subst r
  rw[if_pos rfl]at d;injection d with d;rw[<-d];have i:=bt c (by omega) _ (C.out.step g.out);rw[l,v rfl]at i;have p:=zD i;clear i
  go_enter func237,ntmps237
  go_wp2_with fail
  refine p.out.mono ?_;rintro e P ⟨rfl,f⟩;have b:=(f.block _ (lt_of_heap m.out)).trans m.out;have F:=(f.block _ (lt_of_heap L.out)).trans L.out;have j:=g.out.trans (f.mono g.out.size);have al:=zF F 1 rfl;have X:=zF b 0 rfl;have T:=zF b 1 rfl;have M:=zF b 2 rfl;have ab:=ag b 0;have S:=ag b 1;have ac:=ag b 2;obtain⟨n,o⟩:=zx2 b j;clear b j f F
  go_wp2_with fail
  have N:scV ⟨3,0,s⟩=γ #[V I 3,V I 0,U c]:=by unfold scV;rw[show xR s=U c by rw[<-l];rfl]
  exact bodyPost_ret (cw results237 _ (w.heap.size+1) _ _ _ _ (ai (ai (ai n.out 0 _) 1 _) 2 _) rfl) rfl ⟨by rw[N];rfl,((o.out.setCell (Nat.le_succ _) _).setCell (Nat.le_succ _) _).setCell (Nat.le_succ _) _⟩
 ·rw[if_neg r]at d;cases d
def TkG(w:World)(g:Nat)(v:Value)(a:List Tp.Tk):Prop:=∃b o cap,v=Y b a.length cap/\a.length<=cap/\RA w b g o (xZ a)
theorem RA.far{D:Nat->Prop}{w w':World}{a:Option Addr}{g o:Nat}{c:List Value}(e:RA w a g o c)(d:Far D w w')(l:¬D g):RA w' a g o c:=by
 intro f;obtain⟨j,b,k⟩:=e f;exact⟨j,zK b d.size,λi x m=>(World.cell?_of_block (w:=w) (d.block g b l)).trans (k i x m)⟩
theorem TkG.far{D:Nat->Prop}{w w':World}{g:Nat}{v:Value}{a:List Tp.Tk}(c:TkG w g v a)(f:Far D w w')(j:¬D g):TkG w' g v a:=by
 obtain⟨b,o,cap,e,d,i⟩:=c;exact⟨b,o,cap,e,d,i.far f j⟩
structure yg(w:World)(r g:Nat)(v:Value)(ts:List Tp.Tk)(i:Nat):Prop where
 blk:∃T,w.heap[r]? =W (J #[v,V I (i:Int)] T (0,0))
 tk:TkG w g v ts
 ne:g≠r
 all:∀t∈ts,zf t
 small:ts.length<=100000
 le:i<=ts.length
theorem yg.far{D:Nat->Prop}{w w':World}{a g:Nat}{v:Value}{c:List Tp.Tk}{i:Nat}(o:yg w a g v c i)(b:Far D w w')(l:¬D a)(e:¬D g):yg w' a g v c i:=by
 obtain⟨⟨T,j⟩,d,m,f,k,n⟩:=o;exact⟨⟨T,b.heap j l⟩,d.far b e,m,f,k,n⟩
def xY(b:List Tp.Tk)(i:Nat)(c:List Int):Bool:=match b[i]? with|some t=>c.any λa=>t.k==a|none=>false
theorem wG(x a:Int)(b:World):(binOp .lss 3 (V I x) (V I a)).run π b=.ok (β (decide (x < a))) b:=by
 simp[go_sem]
theorem jh(c g:Nat)(v:Value)(a:List Tp.Tk)(i:Nat)(b:List Int)(al:b.length<=100)(A:Nat)(w:World)(M:yg w c g v a i)(C:∀j,j < b.length->w.cell? ⟨A,j,O⟩=W (V I b[j]!)):
 Calls π 312 #[Z (W ⟨c,0,O⟩),Y (W ⟨A,0,O⟩) b.length b.length] w λe w'=>e=ρ (β (xY a i b))/\∃n,w'=w.drewN n:=by
 obtain⟨⟨T,r⟩,⟨P,o,cap,rfl,av,q⟩,ac,R,ao,a0⟩:=M;have k:=zF r 0 rfl;have l:=zF r 1 rfl;have G:=λp=>uJ (i:Int) 0 p;rw[decide_eq_true (Int.natCast_nonneg i)]at G;have F:=λp=>wG (i:Int) (a.length:Int) p;unfold xY;by_cases N:i < a.length
 ·rw[decide_eq_true (by omega:(i:Int) < (a.length:Int))]at F
  obtain⟨t,m⟩:∃t,a[i]? =W t:=⟨a[i],zE N⟩;rw[m];obtain⟨f,X,H⟩:=bE a i t m;obtain⟨rfl,ad,D⟩:=q (by intro e;rw[e]at f;simp at f);have s:w.cell? ⟨g,o+i * 3,O⟩=W (V I t.k):=D _ _ f;have y:=bX (Value.int I) (λx u=>x==u) (EqlAt.int π 3 I) A 0 b.length b.length b t.k w.drew (η _) (by omega) (λj S=>by rw[Nat.zero_add];exact C j S);simp only[List.take_length]at y;simp only;generalize (b.any λu=>t.k==u)=ab at *;have L:=zD y;clear y C D f X H q m;generalize t.k=K at *;generalize (a.length:Int)=LI at *;generalize a.length=z at *
  go_enter func312,ntmps312
  go_upto_region 1 with (fail)
  refine wp_region_noPanic ?_;refine ar (λw'=>w'.cell? ⟨c,0,O⟩=W (Y (W ⟨g,o,O⟩) z cap)/\w'.cell? ⟨c,1,O⟩=W (V I (i:Int))/\w'.cell? ⟨g,o+i * 3,O⟩=W (V I K)) [] (by kernel_rfl) ?_;refine ay 20 (by kernel_rfl) (λ_ _ _ _ d=>d) (by exact⟨k,l,s⟩) 3 [0,1,2,3,4,5,6,7,8,9,10,11,12,13,14,15,16,17,18,19,20,21,22,23,24,25,26,27,28,29] _ _ (by kernel_rfl) ?_;iterate 30 (refine Ei ?_;(try go_frame))
  refine xT.done ?_;try dsimp only
  refine aq [30] ?_;refine aj rfl (λK E=>?_) xQ.nil
  go_simp
  refine L.out.mono ?_;rintro e an ⟨rfl,rfl⟩;refine E.out _ _ (λ_=>(by exact⟨k,l,s⟩)) ?_;clear E K
  (try go_frame)
  refine ay 20 (by kernel_rfl) (λ_ _ _ _ d=>d) (by exact⟨k,l,s⟩) 0 [31,32] _ _ (by kernel_rfl) ?_;iterate 2 (refine Ei ?_;(try go_frame))
  refine xT.done ?_;try dsimp only
  refine aP (by kernel_rfl) (NoPanic.normal ?_) _
  go_wp2_with fail
  go_ret
  exact⟨by simp[Act.put],1,rfl⟩
 ·rw[decide_eq_false (by omega:¬(i:Int) < (a.length:Int))]at F
  rw[List.getElem?_eq_none (by omega)];simp only;generalize a.length=z at *;clear q r C R
  go_enter func312,ntmps312
  go_upto_region 1 with (fail)
  refine wp_region_noPanic ?_;refine ar (λw'=>w'.cell? ⟨c,0,O⟩=W (Y P z cap)/\w'.cell? ⟨c,1,O⟩=W (V I (i:Int))) [] (by kernel_rfl) ?_;refine ay 20 (by kernel_rfl) (λ_ _ _ _ d=>d) (by exact⟨k,l⟩) 0 [0,1,2,3,4,5,6,7,8,9,10,11,12,13,14,15,16,17,18,19,20,21,22,23,24,25,26,27,28,29,30,31,32] _ _ (by kernel_rfl) ?_;iterate 18 (refine Ei ?_;(try go_frame))
  iterate 13 (refine aB rfl (by simp only[zH,zI,zJ];rfl) (by kernel_rfl) ?_;(try go_frame))
  iterate 2 (refine Ei ?_;(try go_frame))
  refine xT.done ?_;try dsimp only
  refine aP (by kernel_rfl) (NoPanic.normal ?_) _
  go_wp2_with fail
  go_ret
  exact⟨by simp[Act.put],1,rfl⟩
theorem rl{a:List Tp.Tk}{i:Nat}{c:List Int}(b:xY a i c=true):i < a.length:=by
 unfold xY at b;by_cases d:i < a.length
 ·exact d
 ·rw[List.getElem?_eq_none (by omega)]at b;cases b
theorem yg.drewN{w:World}{a g:Nat}{v:Value}{b:List Tp.Tk}{i:Nat}(c:yg w a g v b i)(n:Nat):yg (w.drewN n) a g v b i:=c.far ((ξ xO w).drewN n) (λe=>e) λe=>e
theorem yg.alloc{w:World}{a g:Nat}{v:Value}{b:List Tp.Tk}{i:Nat}(c:yg w a g v b i)(o:Obj):yg (w.alloc o) a g v b i:=c.far ((ξ xO w).alloc o) (λe=>e) λe=>e
theorem yg.moved{w:World}{a g:Nat}{v:Value}{b:List Tp.Tk}{i:Nat}(d:yg w a g v b i)(j:Nat)(e:j<=b.length):yg (w.setCell ⟨a,1,O⟩ (V I (j:Int))) a g v b j:=by
 obtain⟨⟨T,l⟩,f,c,k,m,n⟩:=d;exact⟨⟨T,ai l 1 _⟩,f.far ((ξ (·=a) w).setCell (λ_=>rfl) _) c,c,k,m,e⟩
theorem fg(b g:Nat)(v:Value)(a:List Tp.Tk)(i:Nat)(k:Int)(w:World)(d:yg w b g v a i):
 Calls π 327 #[Z (W ⟨b,0,O⟩),V I k] w λe w'=>e=ρ (β (xY a i [k]))/\yg w' b g v a (if xY a i [k]then i+1 else i)/\Far (·=b) w w':=by
 have l:=jh b g v a i [k] (by simp) w.heap.size (w.alloc (J #[V I k] 3)) (d.alloc _) (λj s=>by
  simp only[zO,List.length_nil,Nat.zero_add,Nat.lt_one_iff]at s;subst s;exact aY rfl rfl)
 have o:=λ(z:xY a i [k]=true)=>rl z;have q:Far (·=b) w (w.alloc (J #[V I k] 3)):=(ξ _ w).alloc _;have r:=d.alloc (J #[V I k] 3);have G:=d.small;generalize xY a i [k]=x at *;simp only[zO,List.length_nil,Nat.zero_add]at l;obtain⟨y,p,c⟩:=zx3 l r q;clear l d r q
 go_enter func327,ntmps327
 go_wp2_with fail
 refine y.out.mono ?_;rintro e A ⟨rfl,n,rfl⟩;have f:=p.out.drewN n;have t:=c.out.drewN n;clear p c;generalize (w.alloc (J #[V I k] 3)).drewN n=D at *;obtain⟨T,m⟩:=f.blk;have E:=zF m 1 rfl;have C:=ag m 1;obtain⟨u,c⟩:=zx2 f t;clear m f t;cases x with
 |false=>
  go_wp2_with fail
  go_ret
  exact⟨rfl,u.out,c.out⟩
 |true=>
  have F:=o rfl;clear o
  go_wp2_with fail
  rw[show ((i:Int)+1)=((i+1:Nat):Int)by omega]
  go_ret
  exact⟨rfl,u.out.moved (i+1) (by omega),c.out.setCell (λ_=>rfl) _⟩
def Row(w:World)(c:NS)(n:Nat)(v:Value)(b:List Value):Prop:=∃a g o cap,v=Y a n cap/\(n<=cap/\cap<=maxLen)/\(b≠[]->c g)/\RA w a g o b
theorem Row.far{D b:NS}{w w':World}{n:Nat}{v:Value}{d:List Value}(p:Row w b n v d)(l:Far D w w')(i:∀k,b k->k < w.heap.size->¬D k):Row w' b n v d:=by
 obtain⟨m,g,o,cap,j,f,e,c⟩:=p;exact⟨m,g,o,cap,j,f,e,λa=>(RA.far c l (i _ (e a) (c a).2.1)) a⟩
theorem Row.mono{a G':NS}{w:World}{n:Nat}{v:Value}{d:List Value}(f:Row w a n v d)(m:∀k,a k->k < w.heap.size->G' k):Row w G' n v d:=by
 obtain⟨e,g,o,cap,j,i,l,c⟩:=f;exact⟨e,g,o,cap,j,i,λb=>m _ (l b) (c b).2.1,c⟩
theorem cy(w:World)(b:NS):Row w b 0 (Y O 0 0) []:=⟨O,0,0,0,rfl,⟨η _,z_ _⟩,λa=>absurd rfl a,wA _ _ _ _⟩
theorem az{w:World}{c:Nat}{T:TypeId}{l n:Nat}{v:Value}{a:List Value}(u:w.ownsRow c T l v n a):Row w (λk=>c<=k) n v a:=by
 obtain⟨b,r⟩:=u;rcases r with ⟨rfl,rfl⟩|⟨g,cap,p,rfl,j,d,m,f,o⟩
 ·simp at b
  subst b;exact cy _ _
 ·refine⟨W ⟨g,0,O⟩,g,0,cap,rfl,⟨m,f⟩,λ_=>j,λ_=>⟨rfl,lt_of_heap d,λi t s=>?_⟩⟩
  have:=World.ownsRow.cells (w:=w) (base:=c) (e:=T) (size:=l) (n:=n) (xs:=a) ⟨b,.inr ⟨g,cap,p,rfl,j,d,m,f,o⟩⟩ (g:=g) rfl i t s;have q:(⟨g,0,O⟩:Addr).add i=⟨g,i,O⟩:=by unfold Addr.add;split<;>simp_all
  rw[q]at this;rw[Nat.zero_add];exact this
def xV(l:List Tp.Sc):List Value:=l.flatMap λx=>[V I x.k,V I x.n,xR x.s]
mutual
def xS (w:World) (a:NS):Tp.Tree->List Value->Prop
 |⟨k,name,x,keys,kids⟩,v=>∃kv d b,v=[V I k,xR name,V I x.k,V I x.n,xR x.s,kv,d]/\Row w a keys.length kv (xV keys)/\xU w a kids b/\Row w a kids.length d b
def xU (w:World) (a:NS):List Tp.Tree->List Value->Prop
 | [],b=>b=[]
 |t::r,b=>∃v c,xS w a t v/\b=v++c/\xU w a r c
end
theorem xS.len{w:World}{b:NS}{t:Tp.Tree}{v:List Value}(a:xS w b t v):v.length=7:=by
 obtain⟨k,d,x,g,c⟩:=t;unfold xS at a;obtain⟨kv,f,e,rfl,_⟩:=a;rfl
mutual
theorem xS.far {D a:NS} {w w':World} (c:Far D w w') (d:∀k,a k->k < w.heap.size->¬D k):∀(t:Tp.Tree) (v:List Value),xS w a t v->xS w' a t v
 |⟨k,name,x,keys,kids⟩,v,h=>by
  unfold xS at h ⊢;obtain⟨kv,m,b,f,e,g,l⟩:=h;exact⟨kv,m,b,f,e.far c d,xU.far c d kids b g,l.far c d⟩
theorem xU.far {D a:NS} {w w':World} (c:Far D w w') (d:∀k,a k->k < w.heap.size->¬D k):∀(i:List Tp.Tree) (b:List Value),xU w a i b->xU w' a i b
 | [],b,h=>by unfold xU at h ⊢;exact h
 |t::r,b,h=>by
  unfold xU at h ⊢;obtain⟨v,j,f,e,g⟩:=h;exact⟨v,j,xS.far c d t v f,e,xU.far c d r j g⟩
end
mutual
theorem xS.mono {c G':NS} {w:World} (b:∀k,c k->k < w.heap.size->G' k):∀(t:Tp.Tree) (v:List Value),xS w c t v->xS w G' t v
 |⟨k,name,x,keys,kids⟩,v,h=>by
  unfold xS at h ⊢;obtain⟨kv,l,a,e,d,f,j⟩:=h;exact⟨kv,l,a,e,d.mono b,xU.mono b kids a f,j.mono b⟩
theorem xU.mono {c G':NS} {w:World} (b:∀k,c k->k < w.heap.size->G' k):∀(g:List Tp.Tree) (a:List Value),xU w c g a->xU w G' g a
 | [],a,h=>by unfold xU at h ⊢;exact h
 |t::r,a,h=>by
  unfold xU at h ⊢;obtain⟨v,i,e,d,f⟩:=h;exact⟨v,i,xS.mono b t v e,d,xU.mono b r i f⟩
end
theorem xU.snoc{w:World}{b:NS}{t:Tp.Tree}{v:List Value}(c:xS w b t v):∀(d:List Tp.Tree) (a:List Value),xU w b d a->xU w b (d++[t]) (a++v)
 | [],a,hk=>by
  unfold xU at hk;subst hk;rw[List.nil_append,List.nil_append];unfold xU;exact⟨v,[],c,(List.append_nil v).symm,by unfold xU;rfl⟩
 |s::r,a,hk=>by
  unfold xU at hk;obtain⟨f,e,g,rfl,i⟩:=hk;rw[List.cons_append];unfold xU;exact⟨f,e++v,g,List.append_assoc _ _ _,xU.snoc c r e i⟩
theorem xU.len{w:World}{c:NS}:∀(b:List Tp.Tree) (a:List Value),xU w c b a->a.length=b.length * 7
 | [],a,hk=>by unfold xU at hk;subst hk;rfl
 |s::r,a,hk=>by
  unfold xU at hk;obtain⟨g,d,e,rfl,f⟩:=hk;rw[zP,e.len,xU.len r d f,zO];omega
theorem xU.at{w:World}{e:NS}:∀(f:List Tp.Tree) (a:List Value) (i:Nat) (t:Tp.Tree),xU w e f a->f[i]? =W t->∃v,xS w e t v/\∀j,j < 7->a[i * 7+j]? =v[j]?
 | [],a,i,t,hk,h=>by simp at h
 |s::r,a,0,t,hk,h=>by
  unfold xU at hk;obtain⟨d,g,b,rfl,k⟩:=hk;simp at h
  subst h;exact⟨d,b,λj c=>by rw[Nat.zero_mul,Nat.zero_add,List.getElem?_append_left (by rw[b.len];exact c)]⟩
 |s::r,a,i+1,t,hk,h=>by
  unfold xU at hk;obtain⟨d,g,b,rfl,k⟩:=hk;obtain⟨v,l,m⟩:=xU.at r g i t k (by simpa using h);refine⟨v,l,λj c=>?_⟩;rw[zV (by rw[b.len];omega),b.len,show (i+1) * 7+j - 7=i * 7+j by omega];exact m j c
theorem Far.at{D:Nat->Prop}{a b:World}(d:Far D a b){p:Addr}{v:Value}(c:a.cell? p=W v)(e:¬D p.block):b.cell? p=W v:=(d.cell (World.block_lt_of_cell? a p c) e).trans c
def New(w:World):NS:=λk=>w.heap.size<=k
theorem yg.tok{w:World}{a g:Nat}{v:Value}{b:List Tp.Tk}{i:Nat}{t:Tp.Tk}(m:yg w a g v b i)(j:b[i]? =W t):∃o cap,v=Y (W ⟨g,o,O⟩) b.length cap/\w.cell? ⟨g,o+i * 3,O⟩=W (V I t.k)/\w.cell? ⟨g,o+i * 3+1,O⟩=W (xR t.s)/\w.cell? ⟨g,o+i * 3+2,O⟩=W (V I (t.a:Int))/\
 w.cell? ⟨a,0,O⟩=W v/\w.cell? ⟨a,1,O⟩=W (V I (i:Int))/\w.frozen? ⟨a,1,O⟩=false:=by
 obtain⟨⟨T,f⟩,⟨r,o,cap,rfl,q,k⟩,_,_,_,_⟩:=m;obtain⟨d,n,l⟩:=bE b i t j;obtain⟨rfl,p,c⟩:=k (by intro e;rw[e]at d;simp at d);exact⟨o,cap,rfl,c _ _ d,c _ _ n,c _ _ l,ae f 0,ae f 1,ag f 1⟩
theorem yg.tok'{w:World}{a g:Nat}{v:Value}{b:List Tp.Tk}{i j:Nat}{t:Tp.Tk}(n:yg w a g v b j)(k:b[i]? =W t):∃o cap,v=Y (W ⟨g,o,O⟩) b.length cap/\w.cell? ⟨g,o+i * 3,O⟩=W (V I t.k)/\w.cell? ⟨g,o+i * 3+1,O⟩=W (xR t.s)/\w.cell? ⟨g,o+i * 3+2,O⟩=W (V I (t.a:Int))/\
 w.cell? ⟨a,0,O⟩=W v/\w.cell? ⟨a,1,O⟩=W (V I (j:Int))/\w.frozen? ⟨a,1,O⟩=false:=by
 obtain⟨⟨T,f⟩,⟨s,o,cap,rfl,r,l⟩,_,_,_,_⟩:=n;obtain⟨d,p,m⟩:=bE b i t k;obtain⟨rfl,q,c⟩:=l (by intro e;rw[e]at d;simp at d);exact⟨o,cap,rfl,c _ _ d,c _ _ p,c _ _ m,ae f 0,ae f 1,ag f 1⟩
theorem yg.lt{w:World}{a g:Nat}{v:Value}{b:List Tp.Tk}{i:Nat}(c:yg w a g v b i):a < w.heap.size:=by
 obtain⟨⟨T,d⟩,_⟩:=c;exact lt_of_heap d
theorem yg.tok_lt{w:World}{c g:Nat}{v:Value}{a:List Tp.Tk}{i:Nat}{t:Tp.Tk}(d:yg w c g v a i)(j:a[i]? =W t):g < w.heap.size:=by
 obtain⟨_,⟨k,o,cap,rfl,l,f⟩,_⟩:=d;obtain⟨b,_⟩:=bE a i t j;exact(f (by intro e;rw[e]at b;simp at b)).2.1
theorem tA(a g:Nat)(v:Value)(l:List Tp.Tk)(i:Nat)(t:Tp.Tk)(x:Tp.Sc)(w:World)(r:yg w a g v l i)(ac:Glob w)(z:l[i]? =W t)(ad:Tp.fkey t=W x):
 Calls π 311 #[Z (W ⟨a,0,O⟩)] w λe w'=>e=ρ (.tuple #[scV x,.nilIface])/\yg w' a g v l (i+1)/\Far (·=a) w w':=by
 obtain⟨cv,_⟩:=zM.1 z;have b9:=r.small;have A:=λF b3=>rk t (r.all t (zL z)) x ad F b3;obtain⟨o,cap,rfl,X,c3,c4,a4,C,P⟩:=r.tok z;obtain⟨s,a2⟩:∃s:ByteArray,(⟨t.s.toArray⟩:ByteArray)=s:=⟨_,rfl⟩;have an:xR t.s=U s:=by rw[<-a2];rfl
 unfold tkV yK scV at A;rw[an]at c3 A;obtain⟨SX,L⟩:∃SX:ByteArray,xR x.s=U SX:=⟨_,rfl⟩;have ba:scV x=γ #[V I x.k,V I x.n,U SX]:=by unfold scV;rw[L]
 rw[L]at A;rw[ba];have bx:=λF=>uJ (i:Int) (l.length:Int) F;rw[decide_eq_false (by omega:¬(l.length:Int)<=(i:Int))]at bx;obtain⟨b4,a5,bD⟩:=zx3 r A ac;have a1:a < w.heap.size:=r.lt;have H:g < w.heap.size:=r.tok_lt z;generalize (t.a:Int)=M at *;generalize t.k=K at *;clear A r ac z ad a2 an L ba
 go_enter func311,ntmps311
 go_wp2_with fail
 go_quiet (fail)
 go_wp2_with fail
 have a6:yg ((w.alloc (J #[V I 0,V I 0,U ⟨#[]⟩] 30)).drewN nq) a g (Y (W ⟨g,o,O⟩) l.length cap) l i:=(b4.out.alloc _).drewN _;have N:((w.alloc (J #[V I 0,V I 0,U ⟨#[]⟩] 30)).drewN nq).heap[w.heap.size]? =W (J #[V I 0,V I 0,U ⟨#[]⟩] 30 (0,0)):=af w _;have n:Far xO w ((w.alloc (J #[V I 0,V I 0,U ⟨#[]⟩] 30)).drewN nq):=((ξ _ w).alloc _).drewN _;have a0:=bD.out.far n (λ_ _ e=>e);generalize ((w.alloc (J #[V I 0,V I 0,U ⟨#[]⟩] 30)).drewN nq)=b at *;have R:b.cell? ⟨g,o+i * 3,O⟩=W (V I K):=(World.cell?_of_block (w:=w) (n.block _ H (λe=>e))).trans X;have al:b.cell? ⟨g,o+i * 3+1,O⟩=W (U s):=(World.cell?_of_block (w:=w) (n.block _ H (λe=>e))).trans c3;have av:b.cell? ⟨g,o+i * 3+2,O⟩=W (V I M):=(World.cell?_of_block (w:=w) (n.block _ H (λe=>e))).trans c4;have ab:b.cell? ⟨a,0,O⟩=W (Y (W ⟨g,o,O⟩) l.length cap):=(World.cell?_of_block (w:=w) (n.block _ a1 (λe=>e))).trans a4;have ao:b.cell? ⟨a,1,O⟩=W (V I (i:Int)):=(World.cell?_of_block (w:=w) (n.block _ a1 (λe=>e))).trans C;obtain⟨bR,bm,b5,a3⟩:=zx4 n a6 N a0;have c1:(0:Int)<=(i:Int):=by omega
 have cf:(i:Int) < (l.length:Int):=by omega
 have ck:=lt_of_heap N;clear a4 C X c3 c4 P n a6 N a0
 go_cut [4,5]from 6 (λbs b2 wx=>∃q:Nat,bs=Z (W ⟨q,0,O⟩)/\b2=V I 0/\wx.heap[q]? =W (J #[V I x.k,V I x.n,U SX] 30 (0,0))/\b.heap.size<=q/\Far xO b wx)
 case first=>
  have a9:=af b (J #[V I 0,V I 0,U ⟨#[]⟩] 30);have bq:∀wx,Far xO b wx->wx.cell? ⟨a,0,O⟩=W (Y (W ⟨g,o,O⟩) l.length cap)/\wx.cell? ⟨a,1,O⟩=W (V I (i:Int))/\wx.cell? ⟨g,o+i * 3,O⟩=W (V I K)/\wx.cell? ⟨g,o+i * 3+1,O⟩=W (U s)/\wx.cell? ⟨g,o+i * 3+2,O⟩=W (V I M):=λwx f=>by
   exact⟨f.at ab id,f.at ao id,f.at R id,f.at al id,f.at av id⟩
  go_region_held3 (λw'=>w'.cell? ⟨a,0,O⟩=W (Y (W ⟨g,o,O⟩) l.length cap)/\w'.cell? ⟨a,1,O⟩=W (V I (i:Int))/\w'.cell? ⟨g,o+i * 3,O⟩=W (V I K)/\w'.cell? ⟨g,o+i * 3+1,O⟩=W (U s)/\w'.cell? ⟨g,o+i * 3+2,O⟩=W (V I M))
   (exact bq _ (by first|exact ξ _ _|exact(ξ _ _).drew|exact((ξ _ _).alloc _).drew|exact m|exact m.alloc _|exact m.drew|exact(m.alloc _).drew|exact((m.setCell (λc=>absurd c (Nat.lt_irrefl _)) _).setCell (λc=>absurd c (Nat.lt_irrefl _)) _).setCell (λc=>absurd c (Nat.lt_irrefl _)) _))
   (first|(go_at_call 237;refine(a5.out b.drew (a3.out.far ((ξ xO _).drew) (λ_ _ e=>e))).mono ?_;rintro e u ⟨rfl,E⟩;have m:Far xO b u:=((ξ _ b).drew).below E)|(go_at_call 237;refine(a5.out (b.alloc (J #[V I 0,V I 0,U ⟨#[]⟩] 30)).drew (a3.out.far (((ξ xO _).alloc _).drew) (λ_ _ e=>e))).mono ?_;rintro e u ⟨rfl,E⟩;have m:Far xO b u:=(((ξ _ b).alloc _).drew).below E;have d:=(E.block b.heap.size (by simp)).trans a9;have b8:u.cell? ⟨b.heap.size,0,O⟩=W (V I 0):=ae d 0;have cc:u.cell? ⟨b.heap.size,1,O⟩=W (V I 0):=ae d 1;have ct:u.cell? ⟨b.heap.size,2,O⟩=W (U ⟨#[]⟩):=ae d 2;have da:=ag d 0;have c0:=ag d 1;have cl:=ag d 2))
  ·go_wp2_with fail
   go_meet
   case rel=>exact⟨_,rfl,rfl,af _ _,m.size,m.alloc _⟩
  ·go_wp2_with fail
   go_meet
   case rel=>exact⟨_,rfl,rfl,ai (ai (ai d 0 _) 1 _) 2 _,η _,((m.setCell (λc=>absurd c (Nat.lt_irrefl _)) _).setCell (λc=>absurd c (Nat.lt_irrefl _)) _).setCell (λc=>absurd c (Nat.lt_irrefl _)) _⟩
 case rest=>
  obtain⟨q,rfl,rfl,d,cS,f⟩:=hcut;clear ab ao R al av;have y:=bm.out.far f (λe=>e) (λe=>e);have j:=f.heap b5.out (λe=>e);have S:=bR.out.trans f;obtain⟨T,G⟩:=y.blk;have C:=zF G 1 rfl;have P:=ag G 1;obtain⟨b6,be,bn,bb⟩:=zx4 y d j S;clear y G d j S f
  go_upto_region 7 with (fail)
  rw[show ((i:Int)+1)=((i+1:Nat):Int)by omega];have y:=b6.out.moved (i+1) (by omega);have d:(wc.setCell ⟨a,1,O⟩ (V I ((i+1:Nat):Int))).heap[q]? =W (J #[V I x.k,V I x.n,U SX] 30 (0,0)):=(Below.heap_setCell _ _ _ _ (by show q≠a;omega)).trans be.out;have j:(wc.setCell ⟨a,1,O⟩ (V I ((i+1:Nat):Int))).heap[w.heap.size]? =W (J #[V I 0,V I 0,U ⟨#[]⟩] 30 (0,0)):=(Below.heap_setCell _ _ _ _ (by show w.heap.size≠a;omega)).trans bn.out;have f:Far (·=a) w (wc.setCell ⟨a,1,O⟩ (V I ((i+1:Nat):Int))):=Far.setCell (D:=(·=a)) (bb.out.mono (λ_ _ e=>e.elim)) (p:=⟨a,1,O⟩) (λ_=>rfl) _;generalize (wc.setCell ⟨a,1,O⟩ (V I ((i+1:Nat):Int)))=b0 at *;have c6:=zF d 0 rfl;have c2:=zF d 1 rfl;have cb:=zF d 2 rfl;have ca:=zF j 0 rfl;have co:=zF j 1 rfl;have c5:=zF j 2 rfl;have cT:=ag j 0;have ch:=ag j 1;have db:=ag j 2;obtain⟨bk,b1,bw⟩:=zx3 y j f;clear y d j f C P
  go_wp2_with fail
  have a9:∀k,w.heap.size<=k->k < w.heap.size->False:=λk c9 cm=>by omega
  exact bodyPost_ret (cw results311 _ w.heap.size _ _ _ _ (ai (ai (ai b1.out 0 _) 1 _) 2 _) rfl) rfl ⟨rfl,bk.out.far (((((ξ (·=w.heap.size) b0).setCell (λ_=>rfl) _).setCell (λ_=>rfl) _).setCell (λ_=>rfl) _)) (by omega) (by omega),((bw.out.setCell (λc=>absurd c (Nat.lt_irrefl _)) _).setCell (λc=>absurd c (Nat.lt_irrefl _)) _).setCell (λc=>absurd c (Nat.lt_irrefl _)) _⟩
def Ak(b g:Nat)(v:Value)(c:List Tp.Tk)(j:Nat)(w:World)(t:Tp.Tree)(e:Ending)(w':World):Prop:=(∃a:List Value,e=ρ (.iface 487 (γ a.toArray))/\xS w' (New w) t a)/\yg w' b g v c j/\Far (·=b) w w'
theorem pP(w:World)(b:NS)(k:Int)(a:Tp.B)(x:Tp.Sc):xS w b ⟨k,a,x,[],[]⟩ [V I k,xR a,V I x.k,V I x.n,xR x.s,Y O 0 0,Y O 0 0]:=by
 unfold xS;exact⟨_,_,[],rfl,cy _ _,by unfold xU;rfl,cy _ _⟩
theorem Be(a g:Nat)(v:Value)(c:List Tp.Tk)(i:Nat)(t:Tp.Tk)(x:Tp.Sc)(s:Int)(w:World)(l:yg w a g v c i)(o:Glob w)(f:c[i]? =W t)(n:Tp.fkey t=W x):
 Calls π 293 #[Z (W ⟨a,0,O⟩),V I s] w (Ak a g v c (i+1) w ⟨0,[],x,[],[]⟩):=by
 have b:=tA a g v c i t x w l o f n;obtain⟨SX,p⟩:∃SX:ByteArray,xR x.s=U SX:=⟨_,rfl⟩;have d:=λq=>pP q (New w) 0 [] x;unfold scV at b;rw[p]at b d;obtain⟨m,u⟩:=zx2 b d;clear b d p f n l o
 go_enter func293,ntmps293
 go_wp2_with fail
 refine m.out.mono ?_;rintro e z ⟨rfl,j,k⟩;have y:=zD (j.alloc (J #[V I x.k,V I x.n,U SX] 30));have r:=zD (k.alloc (J #[V I x.k,V I x.n,U SX] 30));clear j k m
 go_wp2_with fail
 go_ret
 exact⟨⟨_,rfl,u.out _⟩,y.out,r.out⟩
theorem tj(a g:Nat)(v:Value)(b:List Tp.Tk)(i:Nat)(t:Tp.Tk)(E:Int)(w:World)(e:yg w a g v b i)(d:b[i]? =W t):
 Calls π 295 #[Z (W ⟨a,0,O⟩),V I E] w (Ak a g v b (i+1) w ⟨3,t.s,Tp.Sc.null,[],[]⟩):=by
 obtain⟨ac,_⟩:=zM.1 d;have ab:=e.small;have f:=e.moved (i+1) (by omega);obtain⟨o,cap,rfl,H,c3,c4,S,G,A⟩:=e.tok d;obtain⟨N,y,r,P,m,F,C,u,R⟩:=(show yg (w.setCell ⟨a,1,O⟩ (V I ((i+1:Nat):Int))) a g (Y (W ⟨g,o,O⟩) b.length cap) b (i+1)from f).tok' d;obtain⟨rfl,rfl⟩:N=o/\y=cap:=by injection r with h1 h2 h3;injection h1 with h1;injection h1 with h1 h4;exact⟨h4.symm,h3.symm⟩
 obtain⟨k,q⟩:∃k:ByteArray,xR t.s=U k:=⟨_,rfl⟩;have j:=λz=>pP z (New w) 3 t.s Tp.Sc.null;rw[q]at j m c3;have n:Far (·=a) w (w.setCell ⟨a,1,O⟩ (V I ((i+1:Nat):Int))):=Far.setCell (D:=(·=a)) (ξ _ w) (p:=⟨a,1,O⟩) (λ_=>rfl) _;obtain⟨s,l,M⟩:=zx3 f n j;have al:(0:Int)<=(i:Int):=by omega
 have T:(i:Int) < (b.length:Int):=by omega
 clear f n j e d r q
 go_enter func295,ntmps295
 go_upto_region 2 with (fail)
 rw[show ((i:Int)+1)=((i+1:Nat):Int)by omega];obtain⟨c,L⟩:∃c:Int,((i+1:Nat):Int)=c:=⟨_,rfl⟩;have x:c - 1=(i:Int):=by omega
 have X:IntKind.i64.wrap (c - 1)=(i:Int):=by rw[x];exact zU _ (by omega)
 rw[L]at C u P m F R s l ⊢;generalize (w.setCell ⟨a,1,O⟩ (V I c))=ad at *;clear S G H c3 c4 A
 go_quiet (fail)
 go_wp2_with fail
 go_ret
 exact⟨⟨_,rfl,M.out _⟩,s.out.drewN _,l.out.drewN _⟩
theorem hO(c g:Nat)(v:Value)(f:List Tp.Tk)(i:Nat)(l:Tp.Tk)(j:List Value)(t:Tp.Tree)(s:NS)(w:World)(D:yg w c g v f i)(N:f[i]? =W l)(a6:∀k,s k->k≠c)(m:xS w s t j):
 Calls π 315 #[Z (W ⟨c,0,O⟩),V I l.k,γ j.toArray] w λe w'=>(e=ρ (.iface 487 (γ j.toArray))/\xS w' s t j)/\yg w' c g v f (i+1)/\Far (·=c) w w':=by
 have ao:xY f i [l.k]=true:=by unfold xY;rw[N];simp
 obtain⟨k,a2,x,bm,bR⟩:=t;have an:=m;unfold xS at an;obtain⟨kv,a0,bs,rfl,L,a4,R⟩:=an;obtain⟨E,F,C,a9⟩:∃a n p,kv=Y a n p:=by obtain⟨a,_,_,p,d,_⟩:=L;exact⟨_,_,_,d⟩
 obtain⟨G,u,q,a3⟩:∃a n p,a0=Y a n p:=by obtain⟨a,_,_,p,d,_⟩:=R;exact⟨_,_,_,d⟩
 subst a9 a3;obtain⟨H,ac⟩:∃o:ByteArray,xR a2=U o:=⟨_,rfl⟩;obtain⟨z,al⟩:∃o:ByteArray,xR x.s=U o:=⟨_,rfl⟩;simp only[ac,al]at m ⊢;have S:Far xO w (w.alloc (J #[V I k,U H,V I x.k,V I x.n,U z,Y E F C,Y G u q] 78)):=(ξ _ w).alloc _;have r:=fg c g v f i l.k _ (D.alloc (J #[V I k,U H,V I x.k,V I x.n,U z,Y E F C,Y G u q] 78));rw[ao]at r;have M:=af w (J #[V I k,U H,V I x.k,V I x.n,U z,Y E F C,Y G u q] 78);have bk:=D.lt;obtain⟨P,av,T,X⟩:=zx4 r m S M;clear r m S M D ao N L a4 R ac al
 go_enter func315,ntmps315
 go_wp2_with fail
 refine P.out.mono ?_;rintro e be ⟨rfl,ad,A⟩;have b:=A.heap X.out (by omega);have bq:=zF b 0 rfl;have bb:=zF b 1 rfl;have bD:=zF b 2 rfl;have bn:=zF b 3 rfl;have b0:=zF b 4 rfl;have bw:=zF b 5 rfl;have bx:=zF b 6 rfl;have y:=(T.out.mono (D':=(·=c)) (λ_ _ e=>e.elim)).trans A;have ab:=xS.far y (λk d _=>a6 k d) _ _ av.out;obtain⟨ba,a1,a5⟩:=zx3 ad y ab;clear ad A b y ab av P X T
 go_wp2_with fail
 go_ret
 exact⟨⟨rfl,a5.out⟩,ba.out,a1.out⟩
theorem xS.form{w:World}{e:NS}{t:Tp.Tree}{a:List Value}(b:xS w e t a):∃k m i c f j n g l o d,a=[V I k,U m,V I i,V I c,U f,Y j n g,Y l o d]:=by
 obtain⟨k,r,x,q,v⟩:=t;unfold xS at b;obtain⟨kv,p,s,rfl,⟨_,_,_,_,rfl,_⟩,u,⟨_,_,_,_,rfl,_⟩⟩:=b;exact⟨_,_,_,_,_,_,_,_,_,_,_,rfl⟩
theorem xS.named{w:World}{f:NS}{t:Tp.Tree}{a q j d e c i:Value}(g:xS w f t [a,q,j,d,e,c,i])(n:Tp.B):xS w f (t.named n) [a,xR n,j,d,e,c,i]:=by
 obtain⟨k,u,x,s,v⟩:=t;unfold xS at g;obtain⟨kv,m,p,b,l,r,o⟩:=g;injection b with b e2;injection e2 with e2 e3;subst b;unfold Tp.Tree.named xS;exact⟨kv,m,p,by rw[e3],l,r,o⟩
theorem v7(x:Value)(a:World):(Instr.typeAssert (.iface 487 x) 433 487 true).run π a=.ok (.tuple #[x,β true]) a:=by kernel_rfl
def zt(n:Nat):Prop:=∀(a g:Nat) (v:Value) (b:List Tp.Tk) (i c:Nat) (t:Tp.Tree) (rest:List Tp.Tk) (w:World),yg w a g v b i->Glob w->10<=a->Tp.fval n c (b.drop i)=W (t,rest)->
 Calls π 269 #[Z (W ⟨a,0,O⟩),V I (c:Int)] w (Ak a g v b (b.length - rest.length) w t)
theorem xS.base{w:World}{b:NS}{t:Tp.Tree}{v:List Value}(a:xS w b t v){w0:World}(c:∀k,b k->w0.heap.size<=k):xS w (New w0) t v:=xS.mono (λk a _=>c k a) t v a
theorem ow(n:Nat)(ac:zt n)(a g:Nat)(v:Value)(b:List Tp.Tk)(i A:Nat)(f:Tp.Tk)(t:Tp.Tree)(rest:List Tp.Tk)(w:World)(d:yg w a g v b i)(c:Glob w)(b8:10<=a)(s:b[i]? =some f)(F:xY b (i+1) [3,4]=false)(T:Tp.fval n A (b.drop (i+1))=some (t,rest)):
 Calls π 294 #[Z (some ⟨a,0,O⟩),V I (A:Int)] w (Ak a g v b (b.length - rest.length) w (t.named f.s)):=by
 obtain⟨cv,_⟩:=zM.1 s;have ck:=d.small;have cm:=d.lt;have an:=λW r c=>ac a g v b (i+1) A t rest W r c b8 T;have al:∀nq,yg ((w.drewN nq).setCell ⟨a,1,O⟩ (V I ((i+1:Nat):Int))) a g v b (i+1):=λnq=>(d.drewN nq).moved (i+1) (by omega);have X:∀nq,Far (·=a) w ((w.drewN nq).setCell ⟨a,1,O⟩ (V I ((i+1:Nat):Int))):=λnq=>Far.setCell (D:=(·=a)) ((ξ _ w).drewN nq) (p:=⟨a,1,O⟩) (λ_=>rfl) _;obtain⟨o,cap,rfl,ba,c3,c4,b5,bm,b0⟩:=d.tok s;obtain⟨N,C⟩:∃N:ByteArray,xR f.s=U N:=⟨_,rfl⟩;rw[C]at c3;have cS:(0:Int)<=(i:Int):=by omega
 have cl:(i:Int) < (b.length:Int):=by omega
 obtain⟨b1,a6,cb,bD,b2,bR⟩:=zx6 al X an C F c;clear al X an C F c d s T ac
 go_enter func294,ntmps294
 go_wp2_with fail
 go_quiet (fail)
 go_upto_region 3 with (fail)
 rw[show ((i:Int)+1)=((i+1:Nat):Int)by omega];have r:=b1.out nq;have y:=a6.out nq;have c:=bR.out.far y (λk R e=>by omega);generalize ((w.drewN nq).setCell ⟨a,1,O⟩ (V I ((i+1:Nat):Int)))=q at *;have ad:=c.far ((ξ xO q).alloc (J #[V I 3,V I 4] 3)) (λ_ _ e=>e);have E:=r.alloc (J #[V I 3,V I 4] 3);have l:=jh a g _ b (i+1) [3,4] (by simp) q.heap.size _ E (λj bb=>by
  match j,bb with
  |0,_=>exact aY rfl rfl
  |1,_=>exact aY rfl rfl)
 rw[b2.out]at l;simp only[zO,List.length_nil,Nat.zero_add,Nat.reduceAdd]at l;have a1:Far (·=a) w (q.alloc (J #[V I 3,V I 4] 3)):=y.alloc _;obtain⟨M,ca,cf,be⟩:=zx4 l E ad a1;clear b5 bm ba c3 c4 b0 r y c l E ad a1
 go_wp2_with fail
 refine M.out.mono ?_;rintro e co ⟨rfl,m,rfl⟩;have G:=ca.out.drewN m;have ab:=cf.out.far ((ξ xO _).drewN m) (λ_ _ e=>e);have P:=be.out.drewN m;clear M;generalize ((q.alloc (J #[V I 3,V I 4] 3)).drewN m)=a9 at *;have ao:=zD (cb.out a9 G ab);have av:=zD P;clear G ab P
 go_wp2_with fail
 refine ao.out.mono ?_;rintro e bx ⟨⟨ch,rfl,x⟩,L,S⟩;obtain⟨k,b4,cc,a2,bn,bq,bs,b9,b3,bw,a3,rfl⟩:=x.form;have ct:=v7 (γ #[V I k,U b4,V I cc,V I a2,U bn,Y bq bs b9,Y b3 bw a3]);have u:=x.named f.s;rw[bD.out]at u;have a0:=av.out.size;have H:=av.out.trans S;have b6:=zD (u.base (w0:=w) (λk R=>Nat.le_trans a0 R));obtain⟨bk,a5⟩:=zx2 L H;clear x u L S H ao a0
 go_wp2_with fail
 go_ret
 have z:=λo=>(ξ xO bx).alloc o;exact⟨⟨_,rfl,xS.far (z _) (λ_ _ _ e=>e) _ _ b6.out⟩,bk.out.far (z _) (λe=>e) (λe=>e),a5.out.trans ((z _).mono (λ_ _ e=>e.elim))⟩
section
attribute [local go_sem] ak
def AD(a:List (Nat × Obj))(b:World):Prop:=∀p∈a,b.heap[p.1]? =W p.2
theorem AD.far{a:List (Nat × Obj)}{D:NS}{c d:World}(f:AD a c)(e:Far D c d)(g:∀p∈a,¬D p.1):AD a d:=λp b=>e.heap (f p b) (g p b)
def ym{α:Type}(one:Nat->α->Nat->Prop)(a:List Tp.Tk)(b:Int):Nat->List α->Nat->Prop
 |p,[],z=>xY a p [b]=true/\z=p
 |p,x::l,z=>xY a p [b]=false/\∃q,one p x q/\((xY a q [7]=true/\ym one a b (q+1) l z)\/(xY a q [7]=false/\l=[]/\z=q))
def ItE{α:Type}(c:α->Value->NS->World->Prop)(xs:List α)(t:Nat)(v:Array Value)(b:NS)(d:World):Prop:=∃x a,xs[t]? =W x/\v=#[a]/\c x a b d
def Ap(w:World)(a:Nat):Nat:=match w.cell? ⟨a,1,O⟩with|some (V _ n)=>n.toNat|_=>0
theorem yg.place{w:World}{a g:Nat}{v:Value}{b:List Tp.Tk}{i:Nat}(c:yg w a g v b i):Ap w a=i:=by
 obtain⟨⟨T,d⟩,_⟩:=c;have:w.cell? ⟨a,1,O⟩=W (V I (i:Int)):=ae d 1;simp[Ap,this]
theorem kF(b:Nat)(f:Int)(c:Value)(g:∃a b d,c=.func a b d)(w:World):Calls π 314 #[Z (W ⟨b,0,O⟩),V I f,c] w λe w'=>e=ρ (φ (.func 326) #[] #[Z (W ⟨w.heap.size,0,O⟩),Z (W ⟨w.heap.size+1,0,O⟩),Z (W ⟨w.heap.size+2,0,O⟩)])/\w'=((w.alloc (J #[Z (W ⟨b,0,O⟩)] 427)).alloc (J #[V I f] 3)).alloc (J #[c] 490):=by
 obtain⟨a,i,d,rfl⟩:=g
 go_enter func314,ntmps314
 go_wp2
 go_ret
 exact⟨rfl,rfl⟩
theorem kT(args:Array Value)(w:World):(callFunc 326 args).run π w=.ok (.enter 326 args) w:=by kernel_rfl
theorem pY(x:Value)(a:World):(Instr.typeAssert (.iface 487 x) 433 436 true).run π a=.ok (.tuple #[γ #[.nilIface],β false]) a:=by kernel_rfl
theorem ux(x:Value)(a:World):(Instr.typeAssert (.iface 496 x) 433 436 true).run π a=.ok (.tuple #[γ #[.nilIface],β false]) a:=by kernel_rfl
theorem ik{α:Type}(av:Nat)(e3:av=313\/av=316)(one:Nat->α->Nat->Prop)(bk:α->Value->NS->World->Prop)(dn:∀x d0 b1 D c G,bk x d0 b1 c->Far D c G->(∀k,b1 k->¬D k)->bk x d0 b1 G)
(b g:Nat)(v:Value)(r:List Tp.Tk)(i:Int)(xs:List α)(ck z bn a6 A ac a4:Nat)(fT:Int)(u:List (Nat × Obj))(bm:u=[(A,.cells #[Z (W ⟨b,0,O⟩)] 427 (0,0)),(ac,.cells #[V I i] 3 (0,0)),(a4,.cells #[φ (.func av) #[] #[Z (W ⟨bn,0,O⟩),Z (W ⟨a6,0,O⟩)]] 490 (0,0)),(bn,.cells #[Z (W ⟨b,0,O⟩)] 427 (0,0)),(a6,.cells #[V I fT] 3 (0,0))])(d5:∀p∈u,p.1≠b/\p.1≠g)
(c1:∀p x q,one p x q->p<=q/\∀c,yg c b g v r p->AD u c->Glob c->Calls π av #[Z (W ⟨bn,0,O⟩),Z (W ⟨a6,0,O⟩)] c λe G=>∃T a5,e=ρ (.iface T (γ a5))/\(T=487\/T=496)/\bk x (.iface T (γ a5)) (λk=>c.heap.size<=k/\k < G.heap.size) G/\yg G b g v r q/\Far (·=b) c G)
(dc:ym one r i ck xs z)(gx:10<=b)(w:World)(es:g < w.heap.size)(s:AD u w)(d:yg w b g v r ck)(a9:Glob w):
 yQ π 326 #[Z (W ⟨A,0,O⟩),Z (W ⟨ac,0,O⟩),Z (W ⟨a4,0,O⟩)] 3 xs.length (ItE bk xs) (·=b) (λk=>k < 10\/k=g\/∃p∈u,p.1=k) True (λ_ _=>True) (λc=>yg c b g v r z) w:=by
 intro l J gc c9 c b8 e1 hF0 bR eg d6 dg f2;have d4:∀k,c9 k->10<=k/\k≠b/\k≠g/\∀p∈u,k≠p.1:=λk a=>by
  obtain⟨f4,P⟩:=hF0 k a;exact⟨Nat.le_of_not_lt (λa=>P (.inl a)),f4,λa=>P (.inr (.inl a)),λp d e=>P (.inr (.inr ⟨p,d,e.symm⟩))⟩
 have bs:Far xO w c:=Far.of_below b8 _;have f8:g < c.heap.size:=zK es bs.size
 replace s:=s.far bs (λ_ _ e=>e)
 replace d:=d.far bs (λe=>e) (λe=>e)
 replace a9:=a9.step b8
 obtain⟨base,db⟩:∃fs,w.heap.size=fs:=⟨_,rfl⟩;rw[db]at bR eg;obtain⟨S,cl⟩:∃S,xs.length=S:=⟨_,rfl⟩;have b6:∀f k,k=b->¬f b->y8 (·=b) f base k:=λf k e a=>⟨λfL=>a (e ▸ fL),.inl e⟩;obtain⟨a0,f0,cb,fu,ga,fR⟩:=zx6 bR dg cl s d a9;obtain⟨e0,di,dp,fr,er,e8⟩:=zx6 d4 c1 d5 dc d6 dn;rw[cl];clear bR dg cl d4 hF0 d6 eg b8 e1 db s d a9 c1 d5 dc dn bs;have e9:(A,Obj.cells #[Z (W ⟨b,0,O⟩)] 427 (0,0))∈u:=by rw[bm];simp
 have eM:(a4,Obj.cells #[φ (.func av) #[] #[Z (W ⟨bn,0,O⟩),Z (W ⟨a6,0,O⟩)]] 490 (0,0))∈u:=by rw[bm];simp
 rcases e3 with rfl|rfl;all_goals (
 go_enter func326,ntmps326
 go_wp2_with fail
 go_step3
 go_wp2_with fail
 go_step3
 go_wp2_with fail
 go_loopw [] (λwr=>∃(t p:Nat) (f:NS),AD u wr/\yg wr b g v r p/\ym one r i p (xs.drop t) z/\t<=S/\Glob wr/\g < wr.heap.size/\J t f wr/\(∀k,f k->10<=k/\k≠b/\k≠g/\∀p∈u,k≠p.1)) (λwr=>r.length+1 - Ap wr b)
 case atStart=>exact⟨0,ck,c9,fu.out,ga.out,fr.out,z_ _,fR.out,f8,f2,e0.out⟩
 case round=>
  obtain⟨t,p,f,s,d,o,gj,c5,gM,dW,df⟩:=hrel;have f7:=d.place;have b3:wr.cell? ⟨A,0,O⟩=W (Z (W ⟨b,0,O⟩)):=ae (s _ (by rw[bm];exact List.mem_cons_self ..)) 0;have cS:wr.cell? ⟨ac,0,O⟩=W (V I i):=ae (s _ (by rw[bm];exact List.mem_cons_of_mem _ (List.mem_cons_self ..))) 0;obtain⟨L,ex,b2,fn,ca,cT⟩:=zx6 df s d c5 dW o;clear df s d c5 dW o;have b0:∀wx,Far xO wr wx->wx.cell? ⟨A,0,O⟩=W (Z (W ⟨b,0,O⟩))/\wx.cell? ⟨ac,0,O⟩=W (V I i):=λwx N=>⟨N.at b3 id,N.at cS id⟩;have H:∀c bq,Far xO wr c->c.cell? ⟨bq,0,O⟩=W (V I i)->Calls π 312 #[Z (W ⟨b,0,O⟩),Y (W ⟨bq,0,O⟩) 1 1] c λe w'=>e=ρ (β (xY r p [i]))/\∃n,w'=c.drewN n:=λc bq N e4=>jh b g v r p [i] (by simp) bq c (b2.out.far N (λe=>e) (λe=>e)) (λj e2=>by
   match j,e2 with
   |0,_=>exact e4)
  cases y:xs.drop t with
  |nil=>
   have o:=cT.out;rw[y]at o;unfold ym at o;obtain⟨ch,rfl⟩:=o;rw[ch]at H;have bb:=zD H;have bx:t=S:=by have:=congrArg List.length y;rw[zZ,cb.out]at this;simp at this;omega
   subst bx;clear H
   go_wp2_with fail
   go_region_held3 (λw'=>w'.cell? ⟨A,0,O⟩=W (Z (W ⟨b,0,O⟩))/\w'.cell? ⟨ac,0,O⟩=W (V I i)) (exact b0 _ (by repeat (first|exact ξ _ _|refine Far.drew ?_|refine Far.alloc ?_ _|refine Far.drewN ?_ _))) (first|(go_at_call 312;refine(bb.out _ _ (by repeat (first|exact ξ _ _|refine Far.drew ?_|refine Far.alloc ?_ _|refine Far.drewN ?_ _)) (by first|exact aY rfl rfl|exact aY (w:=wr) rfl rfl)).mono ?_;rintro e F ⟨rfl,m,rfl⟩))
   have C:=((ξ xO wr).alloc (.cells #[V I i] 3)).drewN (1+m);have fG:=b2.out.far C (λe=>e) (λe=>e);have fv:=a0.out t f _ _ ca.out (C.mono (λ_ _ e=>e.elim));generalize ((wr.alloc (.cells #[V I i] 3)).drewN (1+m))=X at *
   go_wp2_with fail
   rw[Exit.noGoto_normal]
   go_end0
   exact⟨⟨_,rfl⟩,.inl ⟨f,fv,fG⟩⟩
  |cons x l'=>
   have o:=cT.out;rw[y]at o;unfold ym at o;obtain⟨ch,q,d3,o⟩:=o;rw[ch]at H;have bb:=zD H;clear H
   go_wp2_with fail
   go_region_held3 (λw'=>w'.cell? ⟨A,0,O⟩=W (Z (W ⟨b,0,O⟩))/\w'.cell? ⟨ac,0,O⟩=W (V I i)) (exact b0 _ (by repeat (first|exact ξ _ _|refine Far.drew ?_|refine Far.alloc ?_ _|refine Far.drewN ?_ _))) (first|(go_at_call 312;refine(bb.out _ _ (by repeat (first|exact ξ _ _|refine Far.drew ?_|refine Far.alloc ?_ _|refine Far.drewN ?_ _)) (by first|exact aY rfl rfl|exact aY (w:=wr) rfl rfl)).mono ?_;rintro e F ⟨rfl,m,rfl⟩))
   have C:=((ξ xO wr).alloc (.cells #[V I i] 3)).drewN (1+m);have cf:=b2.out.far C (λe=>e) (λe=>e);have be:=ex.out.far C (λ_ _ e=>e);have b5:=fn.out.far C (λ_ _ e=>e);have da:=a0.out t f _ _ ca.out (C.mono (λ_ _ e=>e.elim));have dj:∀k,f k->k < wr.heap.size:=λk a=>(er.out t f wr ca.out).2 trivial k a;have gd:=C.size;clear b3 cS b0 bb;generalize ((wr.alloc (.cells #[V I i] 3)).drewN (1+m))=X at *;have c3:X.cell? ⟨a4,0,O⟩=W _:=ae (be _ eM) 0;have c4:=(di.out p x q d3).2 X cf be b5;have gr:=(di.out p x q d3).1;obtain⟨ei,f6,fc,dJ,fX⟩:=zx5 c4 dj da be b5;have ge:b < X.heap.size:=cf.lt;clear c4 dj da be b5 cf
   go_wp2_with fail
   refine ei.out.mono ?_;rintro e F ⟨T,a5,rfl,e7,el,cv,c6⟩;have gg:∀c,(Instr.typeAssert (.iface T (γ a5)) 433 436 true).run π c=.ok (.tuple #[γ #[.nilIface],β false]) c:=by
    rcases e7 with rfl|rfl
    ·exact pY _
    ·exact ux _
   obtain⟨dv,e6,ek⟩:=zx3 el cv c6;clear el cv c6 c3 ei
   go_upto_region 3 with (fail)
   refine(wpIn_wide (n:=4)).1 ?_;have a3:Far xO F (F.alloc (.cells #[.nilIface] 436)):=(ξ _ F).alloc _;have dl:=e6.out.far a3 (λe=>e) (λe=>e);have ao:Far (·=b) X (F.alloc (.cells #[.nilIface] 436)):=ek.out.alloc _;have ej:=dJ.out.far ao (λp d e=>(dp.out p d).1 e);have ds:=fX.out.far ao (λk s e=>by omega);have dA:=a0.out t f _ _ fc.out (ao.mono (λk _ e=>b6 f k e (λa=>(L.out b a).2.1 rfl)));have ef:=e8.out _ _ _ _ _ _ dv.out a3 (λ_ _ e=>e);have gl:=ao.size;have gN:=a3.size;have a2:t < xs.length:=by
    rcases Nat.lt_or_ge t xs.length with a|a
    ·exact a
    ·rw[List.drop_eq_nil_of_le a]at y;cases y
   have d1:xs[t]? =W x:=by
    rw[zW a2]at y;injection y with y _;rw[zE a2,y]
   have dm:xs.drop (t+1)=l':=by
    rw[zW a2]at y;injection y
   have ct:RowKit.Hid (t+1<=S):=zD (by rw[<-cb.out];exact a2);clear y dv ek;generalize (F.alloc (.cells #[.nilIface] 436))=ft at *;obtain⟨gJ,gk,assign,body,gf,co⟩:=f0.out t a2 f _ _ ft dA ⟨x,_,d1,rfl,ef⟩ (λk a=>⟨λN=>by have:=f6.out k N;have:=a.1;omega,by have:=a.2;omega⟩);obtain⟨f5,fl,f3,fw⟩:=zx4 co dl ej ds;clear co dl ej ds dA ef ao a3 d1
   gi_wp2
   refine(f5.out).mono ?_;rintro e b4 ⟨E,⟨M,bw⟩,(⟨rfl,d2⟩|⟨rfl,c2⟩)⟩
   ·have c0:=fl.out.far M (λa=>(L.out _ a).2.1 rfl) (λa=>(L.out _ a).2.2.1 rfl)
    have b9:=f3.out.far M (λp d a=>(L.out _ a).2.2.2 p d rfl);have cm:=fw.out.far M (λk s a=>by have:=(L.out _ a).1;omega);have dr:∀k,E k->10<=k/\k≠b/\k≠g/\∀p∈u,k≠p.1:=by
     intro k a;have dC:X.heap.size<=k->10<=k/\k≠b/\k≠g/\∀p∈u,k≠p.1:=λs=>⟨by omega,by omega,by omega,λp d e=>by have:=lt_of_heap (dJ.out p d);omega⟩;rcases bw k a with a|a|a
     ·exact L.out k a
     ·exact dC a.1
     ·exact dC (by omega)
    have ab:=fg b g v r q 7 b4 c0;have f9:g < b4.heap.size:=by have:=M.size;omega
    have b3:b4.cell? ⟨A,0,O⟩=W _:=ae (b9 _ e9) 0;obtain⟨f1,ep,cc,en,o⟩:=zx5 b9 cm dr d2 o;clear c0 b9 cm dr d2 M bw;cases ad:xY r q [7] with
    |true=>
     rw[ad]at ab;have al:=zD ab;clear ab
     gi_wp2
     refine⟨trivial,(callsIn_wide.2 al.out).mono ?_⟩;rintro e e5 ⟨rfl,R,a1⟩;simp only[if_true]at R;obtain⟨an,ba⟩:=zx2 R a1;clear R a1 al
     gi_wp2
     go_wp2_with fail
     go_roundw
     case rel=>
      have fS:ym one r i (q+1) l' z:=by
       rcases o.out with a|a
       ·exact a.2
       ·rw[a.1]at ad;cases ad
      exact⟨t+1,q+1,E,f1.out.far ba.out (λp d e=>(dp.out p d).1 e),an.out,by rw[dm];exact fS,ct.out,ep.out.far ba.out (λk s e=>by omega),zK f9 ba.out.size,a0.out _ E _ _ en.out (ba.out.mono (λk _ e=>b6 E k e (λa=>(cc.out b a).2.1 rfl))),cc.out⟩
     case measure=>rw[f7,an.out.place];have:=an.out.le;omega
    |false=>
     rw[ad]at ab;have al:=zD ab;clear ab
     gi_wp2
     refine⟨trivial,(callsIn_wide.2 al.out).mono ?_⟩;rintro e e5 ⟨rfl,R,a1⟩;have fE:l'=[]/\z=q:=by
      rcases o.out with a|a
      ·rw[a.1]at ad;cases ad
      ·exact a.2
     obtain⟨eq,rfl⟩:=fE;have bx:t+1=S:=by
      have:=ct.out;have P:=congrArg List.length dm;rw[eq,zZ,cb.out]at P;simp at P
      omega
     have bD:=a0.out _ E _ _ en.out (a1.mono (λk _ e=>b6 E k e (λa=>(cc.out b a).2.1 rfl)));rw[bx]at bD;obtain⟨an,fz⟩:=zx2 R bD;clear R a1 al bD
     gi_wp2
     go_wp2_with fail
     rw[Exit.noGoto_normal]
     go_end0
     exact⟨⟨_,rfl⟩,.inl ⟨E,fz.out,an.out⟩⟩
   ·have gb:=zD c2
    clear c2 M bw
    gi_wp2
    refine⟨trivial,?_⟩
    gi_wp2
    go_wp2_with fail
    rw[Exit.noGoto_normal]
    go_end0
    exact⟨⟨_,rfl⟩,.inr ⟨E,gb.out⟩⟩)
end
theorem jm:∀n:Nat,(∀d l t rest,Tp.fval n d l=W (t,rest)->rest <:+l)/\(∀d l i rest,Tp.flist n d l=W (i,rest)->rest <:+l)/\(∀d l k i rest,Tp.fdict n d l=W (k,i,rest)->rest <:+l)
 |0=>⟨λd l t rest a=>by simp[Tp.fval]at a,λd l t rest a=>by simp[Tp.flist]at a,λd l k t rest a=>by simp[Tp.fdict]at a⟩
 |n+1=>by
  obtain⟨m,o,r⟩:=jm n;refine⟨λd l t rest a=>?_,λd l i rest a=>?_,λd l k i rest a=>?_⟩
  ·unfold Tp.fval at a
   split at a
   ·cases a
   match l,a with
   | [],a=>cases a
   |t::u,a=>
    simp only at a;have f:u <:+t::u:=List.suffix_cons t u;split at a
    ·obtain⟨x,_,b⟩:=zN.1 a
     injection b with _ b;exact b ▸ f
    split at a
    ·match u,a with
     | [],a=>cases a
     |y::z,a=>
      simp only at a;split at a
      ·cases a
      ·obtain⟨x,e,b⟩:=zN.1 a
       injection b with _ b;exact b ▸ (m _ _ x.1 x.2 e).trans f
    split at a
    ·injection a with a
     injection a with _ b;exact b ▸ f
    split at a
    ·obtain⟨x,e,b⟩:=zN.1 a
     injection b with _ b;exact b ▸ (o _ _ x.1 x.2 e).trans f
    split at a
    ·obtain⟨x,e,b⟩:=zN.1 a
     injection b with _ b;exact b ▸ (r _ _ x.1 x.2.1 x.2.2 e).trans f
    ·cases a
  ·unfold Tp.flist at a
   match l,a with
   | [],a=>cases a
   |t::u,a=>
    simp only at a;split at a
    ·injection a with a
     injection a with _ b;exact b ▸ List.suffix_cons t u
    cases g:Tp.fval n d (t::u) with
    |none=>rw[g]at a;cases a
    |some y=>
    obtain⟨v,s⟩:=y;rw[g]at a;have f:=m _ _ _ _ g
    match s,a with
    | [],a=>cases a
    |y::z,a=>
     simp only at a;have j:=(List.suffix_cons y z).trans f;split at a
     ·obtain⟨x,e,b⟩:=zN.1 a
      injection b with _ b;exact b ▸ (o _ _ x.1 x.2 e).trans j
     split at a
     ·injection a with a
      injection a with _ b;exact b ▸ j
     ·cases a
  ·unfold Tp.fdict at a
   match l,a with
   | [],a=>cases a
   |t::u,a=>
    simp only at a;split at a
    ·injection a with a
     injection a with _ b;injection b with _ b;exact b ▸ List.suffix_cons t u
    cases p:Tp.fkey t with
    |none=>rw[p]at a;simp at a
    |some x=>
    rw[p]at a
    match u,a with
    | [],a=>simp at a
    |c::s,a=>
     simp only at a;split at a
     ·cases a
     cases g:Tp.fval n d s with
     |none=>rw[g]at a;cases a
     |some y=>
     obtain⟨v,q⟩:=y;rw[g]at a;have f:=((m _ _ _ _ g).trans (List.suffix_cons c s)).trans (List.suffix_cons t (c::s))
     match q,a with
     | [],a=>cases a
     |y::z,a=>
      simp only at a;have j:=(List.suffix_cons y z).trans f;split at a
      ·obtain⟨x,e,b⟩:=zN.1 a
       injection b with _ b;injection b with _ b;exact b ▸ (r _ _ x.1 x.2.1 x.2.2 e).trans j
      split at a
      ·injection a with a
       injection a with _ b;injection b with _ b;exact b ▸ j
      ·cases a
theorem de{α:Type}(a:List α)(p:Nat)(rest:List α)(e:p<=a.length)(b:rest <:+a.drop p):rest=a.drop (a.length - rest.length)/\p<=a.length - rest.length:=by
 have c:=b.length_le;rw[zZ]at c;have d:rest <:+a:=b.trans (List.drop_suffix p a);refine⟨List.suffix_iff_eq_drop.1 d,by omega⟩
theorem aV(b:List Tp.Tk)(p:Nat)(c:List Int):xY b p c=match b.drop p with|t::_=>c.any λd=>t.k==d| []=>false:=by
 unfold xY;rcases Nat.lt_or_ge p b.length with a|a
 ·rw[zW a,zE a]
 ·rw[List.drop_eq_nil_of_le a,List.getElem?_eq_none a]
def AS(n b:Nat)(a:List Tp.Tk)(p:Nat)(x:Tp.Tree)(q:Nat):Prop:=p<=q/\q<=a.length/\∃m,m < n/\Tp.fval m b (a.drop p)=W (x,a.drop q)
theorem gi(b:List Tp.Tk)(n j:Nat):∀(m p:Nat) (r:List Tp.Tree) (rest:List Tp.Tk),m<=n->p<=b.length->Tp.flist m j (b.drop p)=W (r,rest)->∃z t,ym (AS n j b) b 9 p r z/\b[z]? =W t/\t.k=9/\rest=b.drop (z+1)/\p<=z
 |0,p,r,rest,_,_,a=>by simp[Tp.flist]at a
 |m+1,p,r,rest,hm,hp,a=>by
  unfold Tp.flist at a;obtain⟨l,d⟩:∃l,b.drop p=l:=⟨_,rfl⟩;have f:=aV b p [9];rw[d]at a f
  match l,d,f,a with
  | [],d,f,a=>cases a
  |t::u,d,f,a=>
   have E:p < b.length:=by
    rcases Nat.lt_or_ge p b.length with a|a
    ·exact a
    ·rw[List.drop_eq_nil_of_le a]at d;cases d
   have i:=zW E;rw[d]at i;injection i with hd1 hd2;have N:b[p]? =W t:=by rw[zE E,hd1]
   simp only at a f;by_cases o:t.k=9
   ·rw[if_pos o]at a
    injection a with a;injection a with C A;subst C A;refine⟨p,t,?_,N,o,hd2,η _⟩;unfold ym;exact⟨by rw[f,o];rfl,rfl⟩
   ·rw[if_neg o]at a
    have F:xY b p [9]=false:=by rw[f];simp[o]
    cases e:Tp.fval m j (t::u) with
    |none=>rw[e]at a;cases a
    |some y=>
    obtain⟨v,s⟩:=y;rw[e]at a;have H:=(jm m).1 _ _ _ _ e;rw[<-d]at H e;obtain⟨c,D⟩:=de b p s hp H;obtain⟨q,S⟩:∃q,b.length - s.length=q:=⟨_,rfl⟩;rw[S]at c D;have ab:q<=b.length:=by omega
    have g:=λk=>aV b q [k];rw[<-c]at g
    match s,c,e,g,a with
    | [],c,e,g,a=>cases a
    |y::z,c,e,g,a=>
     have L:q < b.length:=by
      rcases Nat.lt_or_ge q b.length with a|a
      ·exact a
      ·rw[List.drop_eq_nil_of_le a]at c;cases c
     have i:=zW L;rw[<-c]at i;injection i with hd1 hd2;have G:AS n j b p v q:=⟨D,ab,m,by omega,by rw[<-c];exact e⟩;simp only at a g;by_cases w:y.k=7
     ·rw[if_pos w]at a
      obtain⟨x,C,A⟩:=zN.1 a;injection A with e1 e2;obtain⟨P,M,X,R,ac,T,ad⟩:=gi b n j m (q+1) x.1 x.2 (by omega) (by omega) (by rw[<-hd2];exact C);refine⟨P,M,?_,R,ac,e2 ▸ T,by omega⟩;rw[<-e1];unfold ym;exact⟨F,q,G,.inl ⟨by rw[g];simp[w],X⟩⟩
     ·rw[if_neg w]at a
      split at a
      ·rename_i h9'
       injection a with a;injection a with e1 e2;subst e1;refine⟨q,y,?_,by rw[zE L,<-hd1],h9',by rw[<-e2,hd2],D⟩;unfold ym;exact⟨F,q,G,.inr ⟨by rw[g];simp[w],rfl,rfl⟩⟩
      ·cases a
theorem kR(args:Array Value)(w:World):(callFunc 397 args).run π w=.ok (.enter 397 args) w:=by kernel_rfl
theorem pQ(x:Value)(a:World):(Go.method 653 487 x "sigillary/flow.tree").run π a=.ok (397,x) a:=by kernel_rfl
theorem gS:(prog.info? 78).map (·.size)=W 7:=by kernel_rfl
theorem j0{d:Func}{a:Tmp}(f:d.results=#[.cell a 78])(b:World)(q:Nat)(x:Array Value)(c:Array Value)(i:b.heap[q]? =W (J x 78 (0,0)))(k:x.size=7)(j:c.getD a undef=Z (W ⟨q,0,O⟩)):
 (results d c).run π b=.ok (γ x) b:=by
 have e:c[a]?.getD undef=Z (W ⟨q,0,O⟩):=by simpa using j
 have g:=run_loadVar_row (P:=π) b q 78 78 x (0,0) _ i underlying78 rfl (by rw[k];exact gS);simp[results,f,asAddr,e,g,Sem.run_bind,Result.andThen]
theorem iL(k b d:Int)(i a:ByteArray)(f g:Option Addr)(j c m l:Nat)(w:World):Calls π 397 #[γ #[V I k,U i,V I b,V I d,U a,Y f j c,Y g m l]] w λe w'=>e=ρ (γ #[V I k,U i,V I b,V I d,U a,Y f j c,Y g m l])/\Below w.heap.size w w':=by
 go_enter func397,ntmps397
 go_wp2_with fail
 exact bodyPost_ret (j0 results397 _ (w.heap.size+1) #[V I k,U i,V I b,V I d,U a,Y f j c,Y g m l] _ (ah _ _ _ (by simp)) rfl rfl) rfl ⟨rfl,((ζ _ w).alloc (η _) _).alloc (by simp) _⟩
theorem kP(b:List Tp.Tk)(n d p:Nat)(x:Tp.Tree × List Tp.Tk)(a:Tp.fval n d (b.drop p)=W x):xY b p [7,11]=false/\d<=24/\xY b p []=false:=by
 rw[aV,aV];cases n with
 |zero=>simp[Tp.fval]at a
 |succ n=>
  unfold Tp.fval at a;split at a
  ·cases a
  rename_i hd
  refine⟨?_,by omega,by split<;>rfl⟩;split
  ·rename_i t u e
   rw[e]at a;simp only at a;simp only[List.any_cons,List.any_nil,Bool.or_false,Bool.or_eq_false_iff,beq_eq_false_iff_ne];refine⟨λc=>?_,λc=>?_⟩<;>rw[c]at a<;>simp at a
  ·rfl
def A3(b g:Nat)(v:Value)(c:List Tp.Tk)(j:Nat)(w:World)(x:Tp.Sc)(t:Tp.Tree)(e:Ending)(w':World):Prop:=(∃a:List Value,e=ρ (.iface 496 (γ (V I x.k::V I x.n::xR x.s::a).toArray))/\xS w' (New w) t a)/\yg w' b g v c j/\Far (·=b) w w'
theorem qr(n:Nat)(bx:zt n)(b g:Nat)(v:Value)(a:List Tp.Tk)(i f:Nat)(F:Tp.Tk)(x:Tp.Sc)(t:Tp.Tree)(rest:List Tp.Tk)(w:World)(an:yg w b g v a i)(o:Glob w)(cf:10<=b)(a1:a[i]? =W F)(a6:Tp.fkey F=W x)(bb:xY a (i+1) [6]=true)(M:Tp.fval n f (a.drop (i+2))=W (t,rest)):
 Calls π 317 #[Z (W ⟨b,0,O⟩),V I (f:Int)] w (A3 b g v a (a.length - rest.length) w x t):=by
 have cS:=an.lt;have c:=tA b g v a i F x w an o a1 a6;have b1:=λE z o=>bx b g v a (i+2) f t rest E z o cf M;obtain⟨a0,cv,_⟩:=kP a n f (i+2) _ M;have b8:=λE=>uI (f:Int) 24 E;rw[decide_eq_false (by omega:¬(24:Int) < (f:Int))]at b8;unfold scV at c;unfold A3;obtain⟨SX,ba⟩:∃SX:ByteArray,xR x.s=U SX:=⟨_,rfl⟩;rw[ba]at c ⊢;obtain⟨bq,ck,cb,ch,b9⟩:=zx5 c b1 a0 bb o;clear c b1 a0 bb o an a1 a6 M ba bx
 go_enter func317,ntmps317
 go_wp2_with fail
 refine bq.out.mono ?_;rintro e ac ⟨rfl,bD,av⟩;have z:=bD.alloc (J #[V I x.k,V I x.n,U SX] 30);have bn:Far (·=b) w (ac.alloc (J #[V I x.k,V I x.n,U SX] 30)):=av.alloc _;have b0:=af ac (J #[V I x.k,V I x.n,U SX] 30);have ad:=fg b g v a (i+1) 6 _ z;rw[ch.out]at ad;have c2:=av.size;obtain⟨a4,be,a2⟩:=zx3 ad bn b0;clear bD av z bn b0 ad bq
 go_wp2_with fail
 refine a4.out.mono ?_;rintro e r ⟨rfl,y,N⟩;simp only[if_true]at y;have bR:=be.out.trans N;have bs:=N.heap a2.out (by omega);have s:=jh b g v a (i+2) [7,11] (by simp) r.heap.size _ (y.alloc (J #[V I 7,V I 11] 3)) (λj b5=>by
  match j,b5 with
  |0,_=>exact aY rfl rfl
  |1,_=>exact aY rfl rfl)
 rw[cb.out]at s;simp only[zO,List.length_nil,Nat.zero_add,Nat.reduceAdd]at s;have l:∀m,yg ((r.alloc (J #[V I 7,V I 11] 3)).drewN m) b g v a (i+2):=λm=>(y.alloc _).drewN m;have d:∀m,Far (·=b) w ((r.alloc (J #[V I 7,V I 11] 3)).drewN m):=λm=>(bR.alloc _).drewN m;have p:∀m,((r.alloc (J #[V I 7,V I 11] 3)).drewN m).heap[ac.heap.size]? =W (J #[V I x.k,V I x.n,U SX] 30 (0,0)):=λm=>aa _ bs;obtain⟨a9,bk,q,u⟩:=zx4 s l d p;clear s l d p y N bR bs a4 be a2
 go_wp2_with fail
 refine a9.out.mono ?_;rintro e cT ⟨rfl,m,rfl⟩;have l:=bk.out m;have d:=q.out m;have p:=u.out m;generalize ((r.alloc (J #[V I 7,V I 11] 3)).drewN m)=b4 at *;have bw:=b9.out.far d (λk c e=>by omega);have b2:=zD (ck.out b4 l bw);obtain⟨q,u⟩:=zx2 d p;clear l d p bw a9 bk
 go_wp2_with fail
 refine b2.out.mono ?_;rintro e b6 ⟨⟨co,rfl,G⟩,a5,L⟩;obtain⟨k,ab,ao,C,H,P,R,al,X,T,D,rfl⟩:=G.form;have c1:=v7 (γ #[V I k,U ab,V I ao,V I C,U H,Y P R al,Y X T D]);have ca:=q.out.size;have bm:=q.out.trans L;have a3:=G.base (w0:=w) (λk c=>Nat.le_trans ca c);have A:=aa (J #[V I k,U ab,V I ao,V I C,U H,Y P R al,Y X T D] 487) (L.heap u.out (by omega));have ct:=zF A 0 rfl;have c0:=zF A 1 rfl;have cm:=zF A 2 rfl;obtain⟨cc,cl,b3⟩:=zx3 a3 a5 bm;clear G a3 a5 L bm A b2 q u
 go_wp2_with fail
 go_ret
 have S:=(ξ xO b6).alloc (J #[V I k,U ab,V I ao,V I C,U H,Y P R al,Y X T D] 487);exact⟨⟨_,rfl,xS.far S (λ_ _ _ e=>e) _ _ cc.out⟩,cl.out.far S (λe=>e) (λe=>e),b3.out.trans (S.mono (λ_ _ e=>e.elim))⟩
section
attribute [local go_sem] ak
attribute [local go_sem] Oper.semAt_some
theorem ri(n:Nat)(t:∀m,m < n->zt m)(d g:Nat)(v:Value)(c:List Tp.Tk)(b:Nat)(z:10<=d)(s l:Nat)(p q:Nat)(x:Tp.Tree)(y:AS n (b+1) c p x q)(G:b<=100)(a:World)(A:yg a d g v c p)(k:a.heap[s]? =W (J #[Z (W ⟨d,0,O⟩)] 427 (0,0)))(i:a.heap[l]? =W (J #[V I (b:Int)] 3 (0,0)))(D:Glob a):
 Calls π 313 #[Z (W ⟨s,0,O⟩),Z (W ⟨l,0,O⟩)] a (Ak d g v c q a x):=by
 obtain⟨L,P,m,E,o⟩:=y;have f:=t m E d g v c p (b+1) x _ a A D z o;rw[zZ,show c.length - (c.length - q)=q by omega]at f;have N:=zF k 0 rfl;have M:=zF i 0 rfl;have r:=zD f;clear f k i o t
 go_enter func313,ntmps313
 go_wp2_with fail
 rw[show ((b:Int)+1)=((b+1:Nat):Int)by omega];refine r.out.mono ?_;rintro e H ⟨⟨w,rfl,j⟩,u,F⟩;have C:=zD j;clear j r
 go_wp2_with fail
 go_ret
 exact⟨⟨w,rfl,C.out⟩,u,F⟩
def LR(d:Nat)(x:Tp.Tree)(c:Value)(b:NS)(e:World):Prop:=∃a:List Value,c=.iface 487 (γ a.toArray)/\xS e b x a/\∀k,b k->d<=k
structure LsI(w:World)(r:Nat)(vs:List Tp.Tree)(t:Nat)(F:NS)(W:World):Prop where
 lt:∀k,F k->k < W.heap.size
 fr:∀k,F k->w.heap.size<=k
 two:F (w.heap.size+2)
 three:F (w.heap.size+3)
 res:W.heap[w.heap.size+2]? =some (J #[.nilIface] 433 (0,0))
 row:∃dv cs KF,W.heap[w.heap.size+3]? =some (J #[V I 1,U ⟨#[]⟩,V I 0,V I 0,U ⟨#[]⟩,Y O 0 0,dv] 78 (0,0))/\W.ownsRow (w.heap.size+9) 78 7 dv t cs/\(∀k,dv.ownBlock=some k->F k)/\xU W KF (vs.take t) cs/\∀k,KF k->F k/\k≠w.heap.size+2/\k≠w.heap.size+3/\dv.ownBlock≠some k
 far:Far (·=r) w W
 box:W.heap[w.heap.size]? =some (J #[Z (some ⟨r,0,O⟩)] 427 (0,0))
theorem am{D:Nat->Prop}{w w':World}{base:Nat}{e:TypeId}{size:Nat}{v:Value}{n:Nat}{xs:List Value}(a:w.ownsRow base e size v n xs)(f:Far D w w')(c:∀k,v.ownBlock=W k->¬D k):w'.ownsRow base e size v n xs:=by
 refine⟨a.1,?_⟩;rcases a.2 with j|⟨g,cap,d,rfl,b,i,rest⟩
 ·exact .inl j
 ·exact .inr ⟨g,cap,d,rfl,b,f.heap i (c g rfl),rest⟩
theorem LsI.step{w:World}{f:Nat}{j:List Tp.Tree}{t:Nat}{g D:NS}{i p:World}(d:LsI w f j t g i)(a:Far D i p)(F:f < w.heap.size)(b:∀k,D k->¬g k/\(k=f\/w.heap.size+7<=k)):LsI w f j t g p:=by
 obtain⟨y,q,o,l,A,⟨r,x,s,C,z,n,E,m⟩,u,v⟩:=d;exact⟨λk c=>zK (y k c) a.size,q,o,l,a.heap A (λe=>(b _ e).1 o),⟨r,x,s,a.heap C (λe=>(b _ e).1 l),am z a (λk c e=>(b _ e).1 (n k c)),n,xU.far a (λk c _ e=>(b _ e).1 (m k c).1) _ _ E,m⟩,u.step a (λk c e=>by rcases (b _ e).2 with d|d;exact d;omega),a.heap v (λe=>by rcases (b _ e).2 with d|d<;>omega)⟩
theorem aU{w:World}{base:Nat}{e:TypeId}{size g n cap:Nat}{xs:List Value}(a:w.ownsRow base e size (Y (W ⟨g,0,O⟩) n cap) n xs):∃b,w.heap[g]? =W (J b e (0,0)):=by
 rcases a.2 with ⟨a,_⟩|⟨f,d,b,a,_,c,_⟩
 ·cases a
 ·injection a with a
  injection a with a;injection a with a;subst a;exact⟨b,c⟩
theorem aT{w:World}{base:Nat}{e:TypeId}{size g n cap:Nat}{xs:List Value}(c:w.ownsRow base e size (Y (W ⟨g,0,O⟩) n cap) n xs)(i:Nat)(b:Value):(w.setCell ⟨g,i,O⟩ b).ownsRow base e size (Y (W ⟨g,0,O⟩) n cap) n (xs.set i b):=by
 refine⟨by rw[List.length_set];exact c.1,?_⟩;rcases c.2 with ⟨c,_⟩|⟨q,p,l,a,j,d,m,f,k,o⟩
 ·cases c
 ·injection a with a e1 e2
  injection a with a;injection a with a;subst a e2;refine .inr ⟨g,cap,l.setIfInBounds i b,rfl,j,ai d i b,m,f,by rw[Array.size_setIfInBounds];exact k,?_⟩;rw[Array.toList_setIfInBounds,<-o,List.take_set]
theorem bP{w:World}{base:Nat}{e:TypeId}{g n cap i:Nat}{a:List Value}{u q o t p m s:Value}(j k l b d c f:Value)(v:w.ownsRow base e 7 (Y (W ⟨g,0,O⟩) n cap) n (a++[u,q,o,t,p,m,s]))(r:a.length=i):
 (((((((w.setCell ⟨g,i,O⟩ j).setCell ⟨g,i+1,O⟩ k).setCell ⟨g,i+2,O⟩ l).setCell ⟨g,i+3,O⟩ b).setCell ⟨g,i+4,O⟩ d).setCell ⟨g,i+5,O⟩ c).setCell ⟨g,i+6,O⟩ f).ownsRow base e 7 (Y (W ⟨g,0,O⟩) n cap) n (a++[j,k,l,b,d,c,f]):=by
 have:=aT (aT (aT (aT (aT (aT (aT v i j) (i+1) k) (i+2) l) (i+3) b) (i+4) d) (i+5) c) (i+6) f;subst r
 simpa [List.set_append_right]using this
theorem dL{w:World}{base:Nat}{e:TypeId}{g n cap i:Nat}{l:List Value}{p k d o f c m:Value}(t:w.ownsRow base e 7 (Y (W ⟨g,0,O⟩) n cap) n (l++[p,k,d,o,f,c,m]))(r:l.length=i):
 w.cell? ⟨g,i,O⟩=W p/\w.cell? ⟨g,i+1,O⟩=W k/\w.cell? ⟨g,i+2,O⟩=W d/\w.cell? ⟨g,i+3,O⟩=W o/\w.cell? ⟨g,i+4,O⟩=W f/\w.cell? ⟨g,i+5,O⟩=W c/\w.cell? ⟨g,i+6,O⟩=W m:=by
 have a:∀(j:Nat) (b:Value),(l++[p,k,d,o,f,c,m])[j]? =W b->w.cell? ⟨g,j,O⟩=W b:=λj b s=>by
  have:=t.cells (g:=g) rfl j b s;have q:(⟨g,0,O⟩:Addr).add j=⟨g,j,O⟩:=by unfold Addr.add;split<;>simp_all
  rwa [q]at this
 subst r;refine⟨a _ _ ?_,a _ _ ?_,a _ _ ?_,a _ _ ?_,a _ _ ?_,a _ _ ?_,a _ _ ?_⟩<;>simp[zV]
theorem cx{w:World}{l:Nat}{T:TypeId}{e n:Nat}{v:Value}{b:List Value}(i:w.ownsRow l T e v n b):Row w (λk=>v.ownBlock=W k) n v b:=by
 obtain⟨d,g,o,cap,c,j,m,a⟩:=az i;refine⟨d,g,o,cap,c,j,λf=>?_,a⟩;rw[c,(a f).1];rfl
theorem eB{e:Func}{a:Tmp}(g:e.results=#[.cell a 433])(b:World)(q:Nat)(x:Value)(c:Array Value)(i:b.cell? ⟨q,0,O⟩=W x)(j:c.getD a undef=Z (W ⟨q,0,O⟩))(k:∃T d,x=.iface T d):
 (results e c).run π b=.ok x b:=by
 obtain⟨T,d,rfl⟩:=k;have f:c[a]?.getD undef=Z (W ⟨q,0,O⟩):=by simpa using j
 simp[results,g,f,go_sem,i]
theorem nL:(prog.info? 78).map (λi=>(i.zero,i.size,i.bytes))=W (W (γ #[V I 0,U ⟨#[]⟩,V I 0,V I 0,U ⟨#[]⟩,Y O 0 0,Y O 0 0]),7,104):=by kernel_rfl
theorem fU{α:Type}{one:Nat->α->Nat->Prop}{c:List Tp.Tk}{e:Int}(b:∀p x q,one p x q->p<=q):∀(xs:List α) (p z:Nat),ym one c e p xs z->xs.length+p<=z+1/\p<=z
 | [],p,z,a=>by
  unfold ym at a;obtain⟨_,rfl⟩:=a;simp
 |x::l,p,z,a=>by
  unfold ym at a;obtain⟨_,q,d,a⟩:=a;have:=b _ _ _ d;rw[zO];rcases a with ⟨_,a⟩|⟨_,rfl,rfl⟩
  ·have:=fU b l (q+1) z a
   omega
  ·simp;omega
theorem qw(n:Nat)(f9:∀m,m < n->zt m)(b g:Nat)(v:Value)(y:List Tp.Tk)(i r:Nat)(N:List Tp.Tree)(rest:List Tp.Tk)(w:World)(da:yg w b g v y i)(S:Glob w)(gM:10<=b)(hX:g < w.heap.size)(h9:i < y.length)(hn:r<=100)(bq:Tp.flist n (r+1) (y.drop (i+1))=W (N,rest)):
 Calls π 296 #[Z (W ⟨b,0,O⟩),V I (r:Int)] w (Ak b g v y (y.length - rest.length) w ⟨1,[],Tp.Sc.null,[],N⟩):=by
 obtain⟨z,hf,d5,dC,hL,fc,h6⟩:=gi y n (r+1) n (i+1) N rest (η _) (by omega) bq;have hZ:=da.small;have cv:=da.lt;have fL:=cv;obtain⟨hg,_⟩:=zM.1 dC;have dg:y.length - rest.length=z+1:=by rw[fc,zZ];omega
 rw[dg];have iw:N.length<=100000:=by have:=(fU (λp x q a=>a.1) _ _ _ d5).1;omega
 obtain⟨T,co⟩:=da.blk;have cS:=zF co 1 rfl;have eg:=ag co 1;obtain⟨gO,f3,g3,fE,ht⟩:=zx5 da S f9 d5 dC;clear da S f9 d5 dC bq fc dg co;refine callsIn_wide.1 (callsIn_of_wp_marks (n:=5) func296 rfl trivial (wpIn_wide.2 ?_));simp only[ntmps296,List.size_toArray,zO,List.length_nil,Nat.reduceAdd,Nat.reduceSub,Array.replicate_succ,Array.replicate_zero,List.push_toArray,List.append_toArray,List.nil_append,List.cons_append]
 go_upto_region 1 with (fail)
 have cm:Far xO w (((w.alloc (J #[Z (W ⟨b,0,O⟩)] 427)).alloc (J #[V I (r:Int)] 3)).alloc (J #[.nilIface] 433)):=(((ξ _ w).alloc _).alloc _).alloc _;have b0:(((w.alloc (J #[Z (W ⟨b,0,O⟩)] 427)).alloc (J #[V I (r:Int)] 3)).alloc (J #[.nilIface] 433)).heap[w.heap.size]? =W (J #[Z (W ⟨b,0,O⟩)] 427 (0,0)):=aa _ (aa _ (ah _ _ _ rfl));have dc:(((w.alloc (J #[Z (W ⟨b,0,O⟩)] 427)).alloc (J #[V I (r:Int)] 3)).alloc (J #[.nilIface] 433)).heap[w.heap.size+1]? =W (J #[V I (r:Int)] 3 (0,0)):=aa _ (ah _ _ _ (by simp));have ds:(((w.alloc (J #[Z (W ⟨b,0,O⟩)] 427)).alloc (J #[V I (r:Int)] 3)).alloc (J #[.nilIface] 433)).heap[w.heap.size+1+1]? =W (J #[.nilIface] 433 (0,0)):=ah _ _ _ (by simp);have bm:(((w.alloc (J #[Z (W ⟨b,0,O⟩)] 427)).alloc (J #[V I (r:Int)] 3)).alloc (J #[.nilIface] 433)).heap.size=w.heap.size+3:=by simp
 generalize (((w.alloc (J #[Z (W ⟨b,0,O⟩)] 427)).alloc (J #[V I (r:Int)] 3)).alloc (J #[.nilIface] 433))=c9 at *;have g1:=gO.out.far cm (λe=>e) (λe=>e)
 replace cS:=cm.at cS id
 replace eg:=(cm.frozen (p:=⟨b,1,O⟩) cv (λe=>e)).trans eg
 have dr:=zF b0 0 rfl
 go_upto_region 2 with (fail)
 rw[show ((i:Int)+1)=((i+1:Nat):Int)by omega];have er:=g1.moved (i+1) (by omega);have gc:Far (·=b) w (c9.setCell ⟨b,1,O⟩ (V I ((i+1:Nat):Int))):=Far.setCell (D:=(·=b)) (cm.mono (λ_ _ e=>e.elim)) (p:=⟨b,1,O⟩) (λ_=>rfl) _;have di:∀(k:Nat) (o:Obj),k≠b->c9.heap[k]? =W o->(c9.setCell ⟨b,1,O⟩ (V I ((i+1:Nat):Int))).heap[k]? =W o:=λk o c a=>(Below.heap_setCell _ _ _ _ c).trans a
 replace b0:=di _ _ (by omega) b0
 replace dc:=di _ _ (by omega) dc
 replace ds:=di _ _ (by omega) ds
 replace bm:(c9.setCell ⟨b,1,O⟩ (V I ((i+1:Nat):Int))).heap.size=w.heap.size+3:=by rw[<-bm];simp[World.setCell]
 clear di cS eg dr g1 cm;generalize (c9.setCell ⟨b,1,O⟩ (V I ((i+1:Nat):Int)))=dW at *;have dr:=zF b0 0 rfl
 go_upto_region 4 with (fail)
 have hJ:=aK (o:=J #[V I 1,U ⟨#[]⟩,V I 0,V I 0,U ⟨#[]⟩,Y O 0 0,Y O 0 0] 78) (lt_of_heap b0) dr;clear dr
 go_wp2_with fail
 refine(kF b 9 _ ⟨_,_,_,rfl⟩ _).mono ?_;rintro e bb ⟨rfl,bs⟩;have el:(dW.alloc (Obj.cells #[V I 1,U ⟨#[]⟩,V I 0,V I 0,U ⟨#[]⟩,Y O 0 0,Y O 0 0] 78)).heap.size=w.heap.size+4:=by simp[bm]
 rw[el];have ad:Far xO dW bb:=by rw[bs];exact((((ξ _ dW).alloc _).alloc _).alloc _).alloc _
 have gQ:bb.heap.size=w.heap.size+7:=by rw[bs];simp[bm]
 have g6:bb.heap[w.heap.size+3]? =W (J #[V I 1,U ⟨#[]⟩,V I 0,V I 0,U ⟨#[]⟩,Y O 0 0,Y O 0 0] 78 (0,0)):=by rw[bs];exact aa _ (aa _ (aa _ (ah _ _ _ bm.symm)))
 have f6:bb.heap[w.heap.size+4]? =W (J #[Z (W ⟨b,0,O⟩)] 427 (0,0)):=by rw[bs];exact aa _ (aa _ (ah _ _ _ el.symm))
 have fS:bb.heap[w.heap.size+4+1]? =W (J #[V I 9] 3 (0,0)):=by rw[bs];exact aa _ (ah _ _ _ (by simp[bm]))
 have fr:bb.heap[w.heap.size+4+2]? =W (J #[φ (.func 313) #[] #[Z (W ⟨w.heap.size,0,O⟩),Z (W ⟨w.heap.size+1,0,O⟩)]] 490 (0,0)):=by rw[bs];exact ah _ _ _ (by simp[bm])
 have ek:=ad.heap b0 (λe=>e);have gR:=ad.heap dc (λe=>e);have ge:=ad.heap ds (λe=>e);have gb:=er.far ad (λe=>e) (λe=>e);have ep:=gc.step ad (λ_ _ e=>e.elim);have ga:=f3.out.far ep (λk c e=>by omega);clear bs el bm hJ b0 dc ds er gc ad;have fw:LsI w b N 0 (λk=>k=w.heap.size+2\/k=w.heap.size+3) bb:=⟨λk c=>by omega,λk c=>by omega,.inl rfl,.inr rfl,ge,⟨Y O 0 0,[],xO,g6,World.ownsRow_nil _ _ _ _,λk a=>by simp[Value.ownBlock]at a,by rw[List.take_zero];unfold xU;rfl,λ_ a=>a.elim⟩,ep,ek⟩;have e4:∀p x q,AS n (r+1) y p x q->p<=q/\∀f,yg f b g v y p->AD [(w.heap.size+4,J #[Z (W ⟨b,0,O⟩)] 427 (0,0)),(w.heap.size+4+1,J #[V I 9] 3 (0,0)),(w.heap.size+4+2,J #[φ (.func 313) #[] #[Z (W ⟨w.heap.size,0,O⟩),Z (W ⟨w.heap.size+1,0,O⟩)]] 490 (0,0)),(w.heap.size,J #[Z (W ⟨b,0,O⟩)] 427 (0,0)),(w.heap.size+1,J #[V I (r:Int)] 3 (0,0))] f->Glob f->Calls π 313 #[Z (W ⟨w.heap.size,0,O⟩),Z (W ⟨w.heap.size+1,0,O⟩)] f λe ab=>∃T bn,e=ρ (.iface T (γ bn))/\(T=487\/T=496)/\LR w.heap.size x (.iface T (γ bn)) (λk=>f.heap.size<=k/\k < ab.heap.size) ab/\yg ab b g v y q/\Far (·=b) f ab:=λp x q gj=>⟨gj.1,λf s c S=>by
  refine(ri n g3.out b g v y r gM w.heap.size (w.heap.size+1) p q x gj hn f s (c (w.heap.size,J #[Z (W ⟨b,0,O⟩)] 427 (0,0)) (by simp)) (c (w.heap.size+1,J #[V I (r:Int)] 3 (0,0)) (by simp)) S).mono ?_;rintro e ab ⟨⟨bn,rfl,F⟩,he,b3⟩;have hR:w.heap.size<=f.heap.size:=Nat.le_of_lt (lt_of_heap (c (w.heap.size,J #[Z (W ⟨b,0,O⟩)] 427 (0,0)) (by simp)));exact⟨487,_,rfl,.inl rfl,⟨bn,rfl,xS.mono (λk hN hx=>⟨hN,hx⟩) _ _ F,λk a=>Nat.le_trans hR a.1⟩,he,b3⟩⟩
 have ft:=ik 313 (.inl rfl) (AS n (r+1) y) (LR w.heap.size) (λx ca al D f ab a l hd=>by
  obtain⟨bn,rfl,F,co⟩:=a;exact⟨bn,rfl,xS.far l (λk a _=>hd k a) _ _ F,co⟩) b g v y 9 N (i+1) z w.heap.size (w.heap.size+1) (w.heap.size+4) (w.heap.size+4+1) (w.heap.size+4+2) (r:Int) _ rfl (λp s=>by
   simp only[List.mem_cons,List.mem_nil_iff,or_false]at s;rcases s with rfl|rfl|rfl|rfl|rfl<;>exact⟨by simp only;omega,by simp only;omega⟩) e4 fE.out gM bb (by omega) (by
   intro p s;simp only[List.mem_cons,List.mem_nil_iff,or_false]at s;rcases s with rfl|rfl|rfl|rfl|rfl
   ·exact f6
   ·exact fS
   ·exact fr
   ·exact ek
   ·exact gR) gb ga
 obtain⟨hS,av,hu⟩:=zx3 fw gQ ft;clear fw gQ ft e4 ek gR ge g6 f6 fS fr ep ga gb gO f3 g3 fE
 go_wp2_with fail
 refine wpIn_wide.1 (aC (n:=5) (gf:=326) (lb:=#[Z (W ⟨w.heap.size+4,0,O⟩),Z (W ⟨w.heap.size+4+1,0,O⟩),Z (W ⟨w.heap.size+4+2,0,O⟩)]) rfl (λargs wx=>kT args wx)
  hu.out (λk e=>by have:=av.out;omega) (λk e=>by
   have:=av.out;rcases e with a|a|⟨p,s,rfl⟩
   ·omega
   ·omega
   ·simp only[List.mem_cons,List.mem_nil_iff,or_false]at s
    rcases s with rfl|rfl|rfl|rfl|rfl<;>simp only<;>omega) (λt v al f a=>by obtain⟨x,ca,_,rfl,_⟩:=a;rfl)
  (LsI w b N) (λ_ _ _=>False) (λk=>k=w.heap.size+2\/k=w.heap.size+3) (λk a=>by
   have:=av.out;refine⟨by omega,?_,by omega,by omega,λ_=>by omega⟩;rintro (hz|hz|⟨p,s,rfl⟩)
   ·omega
   ·omega
   ·simp only[List.mem_cons,List.mem_nil_iff,or_false]at s
    rcases s with rfl|rfl|rfl|rfl|rfl<;>simp only at a<;>omega) hS.out ?hI (λ_ _ _ _ a _=>a) (λ_ _ _ _=>trivial) ?hFin ?round ?done (λ_ _ _ a=>a.elim))
 case hI=>
  intro t R f ab a l;exact a.step l cv (λk e=>by have:=av.out;exact⟨e.1,by rcases e.2 with a|a<;>omega⟩)
 case hFin=>
  intro f ab a l;exact a.far l (λe=>by have:=av.out;omega) (λe=>by have:=av.out;omega)
 case round=>
  rintro t R al iv f K hW cv hI ⟨x,ca,e7,rfl,bn,rfl,F,ac⟩ S a1 d;obtain⟨k,ba,bk,an,a2,a3,a4,be,a9,a5,ao,rfl⟩:=F.form;have h5:=pY (γ #[V I k,U ba,V I bk,V I an,U a2,Y a3 a4 be,Y a9 a5 ao]);have dA:=av.out;rw[dA]at S a1 cv
  gi_wp2
  refine d _ _ (ξ _ f) ?_;intro M cT hU hr;rw[dA]at cT;have h0:=cT.size;have f4:=hI.step cT fL (λk e=>⟨λa=>(a1 k a).2.1 e,by omega⟩);have ex:=xS.far cT (λk a _ e=>(S k a).2.2.1 e) _ _ F;have fT:∀k,al k->¬R k/\k < M.heap.size/\w.heap.size<=k:=λk a=>⟨(S k a).1,by have:=(S k a).2.2.2;omega,ac k a⟩;obtain⟨a6,fl,f0,hE⟩:=zx4 fT ex f4 e7;clear hI F S a1 d cT hU hr e7 f4 ex fT
  gi_wp2_with fail
  have c1:Far xO M (M.alloc (J #[.nilIface] 436)):=(ξ _ M).alloc _;have hs:=f0.out.step c1 fL (λk e=>e.elim);have e5:=xS.far c1 (λk _ _ e=>e) _ _ fl.out;have g8:=c1.size;clear f0 fl;have hq:=c1;clear c1;generalize (M.alloc (J #[.nilIface] 436))=P at *;obtain⟨cc,cb,ct,cf,c4,⟨bw,c3,b8,E,X,a0,b1,G⟩,db,df⟩:=hs;obtain⟨C,A,rfl⟩:∃C A,bw=Y C t A:=by
   rcases X.2 with ⟨bx,g0⟩|⟨hh,hp,d0,bx,_⟩
   ·exact⟨O,0,by rw[bx,g0]⟩
   ·exact⟨_,_,bx⟩
  have b4:=zF E 6 rfl;obtain⟨hv,hl,ho,hP,hB⟩:=info_parts nL;refine aN (λw'=>w'.cell? ⟨w.heap.size+3,6,O⟩=W (Y C t A)) [7,8,9,10] (by kernel_rfl) (by kernel_rfl) (λa=>by obtain⟨_,_,a⟩:=a;exact a) ?_;refine aJ (by kernel_rfl) (λ_ _ _ _ a=>a) b4 7 [0,1,2,4] _ _ (by kernel_rfl) ?_;iterate 4 (refine xT.take (v:=?_) rfl (by kernel_rfl) ?_ ?_;rotate_left;·(intro hw en;(try dsimp only at en);go_simp;try with_reducible rfl);try go_frame)
  refine xT.done ?_;try dsimp only
  have h4:=pQ (γ #[V I k,U ba,V I bk,V I an,U a2,Y a3 a4 be,Y a9 a5 ao]);refine aq [3,5] ?_;have ie:=kR;refine aj rfl (λK d=>?_) (aj rfl (λK d=>?_) xQ.nil)
  go_simp
  refine(iL k bk an ba a2 a3 a9 a4 be a5 ao _).mono ?_;rintro e c2 ⟨rfl,ck⟩;have dm:Far xO P c2:=((ξ _ P).drew).below ck;clear ck;refine d.out _ _ (λ_=>(dm.at b4 id)) ?_;clear d K;try go_frame
  refine aq [5] ?_;refine aj rfl (λK d=>?_) xQ.nil
  go_simp
  refine d.out _ _ (λ_=>((dm.alloc _).at b4 id)) ?_;clear d K;try go_frame
  have L:Far xO P (c2.alloc (J #[V I 0,U ⟨#[]⟩,V I 0,V I 0,U ⟨#[]⟩,Y O 0 0,Y O 0 0] 78)):=dm.alloc _;have b6:=af c2 (J #[V I 0,U ⟨#[]⟩,V I 0,V I 0,U ⟨#[]⟩,Y O 0 0,Y O 0 0] 78);generalize c6:c2.heap.size=bR at b6 ⊢;clear c6 dm;generalize (c2.alloc (J #[V I 0,U ⟨#[]⟩,V I 0,V I 0,U ⟨#[]⟩,Y O 0 0,Y O 0 0] 78))=ch at *
  rotate_left
  go_simp
  refine d.out _ _ (λ_=>((((ξ xO P).drew).alloc _).at b4 id)) ?_;clear d K;try go_frame
  refine aq [3] ?_;refine aj rfl (λK d=>?_) xQ.nil
  go_simp
  refine(iL k bk an ba a2 a3 a9 a4 be a5 ao _).mono ?_;rintro e ch ⟨rfl,ck⟩;have L:Far xO P ch:=(((ξ _ P).drew).alloc _).below ck;have b6:=(ck.block P.heap.size (by simp)).trans (af P (J #[V I 0,U ⟨#[]⟩,V I 0,V I 0,U ⟨#[]⟩,Y O 0 0,Y O 0 0] 78));clear ck;obtain⟨bR,c6⟩:∃bR,P.heap.size=bR:=⟨_,rfl⟩;have iC:=g8;rw[c6]at b6;refine d.out _ _ (λ_=>(L.at b4 id)) ?_;clear d K;try go_frame
  rw[c6];clear c6;all_goals (
   have hV:=zD L;have e0:=L.at b4 (λe=>e);have dJ:=am X L (λ_ _ e=>e);have hg:=lt_of_heap b6;have iB:=L.size;have e6:∀(j:Nat) (ca:Value),[Value.int I 0,U ⟨#[]⟩,V I 0,V I 0,U ⟨#[]⟩,Y O 0 0,Y O 0 0][j]? =W ca->ch.cell? ((⟨bR,0,O⟩:Addr).add j)=W ca:=by
    intro j ca dg;have hC:(⟨bR,0,O⟩:Addr).add j=⟨bR,j,O⟩:=by unfold Addr.add;split<;>simp_all
    rw[hC,ae b6 j]
    simpa using dg
   have ha:t+1<=maxLen:=by unfold maxLen;omega
   have g7:w.heap.size+9<=ch.heap.size:=by omega
   refine aq [6] ?_;refine aj rfl (λK d=>?_) xQ.nil;refine wp_append_lies ch (.tmp 34) (.tmp 38) 76 rfl (w.heap.size+9) 78 hv _ 7 104 underlying76 hl ho hP hB rfl (by decide) (Y C t A) t c3 rfl dJ ⟨bR,0,O⟩ 1 1 [V I 0,U ⟨#[]⟩,V I 0,V I 0,U ⟨#[]⟩,Y O 0 0,Y O 0 0] rfl rfl e6 (by simp[Value.oneCell']) (by decide) ha (by omega) g7 ch.heap.size rfl ?_;intro gg cap w5 c5 cl fz hD;have dn:=dJ.lt;have iY:=(c5.lt gg rfl).1;have h1:=cl.cell e0 (λe=>by have a:=(dn _ e.symm).1;dsimp only at a;omega);refine d.out _ _ (λ_=>(cl.cell e0 (λe=>by have a:=(dn _ e.symm).1;dsimp only at a;omega))) ?_;clear d K;try go_frame
   have ih:(0:Int)<=(t:Int):=by omega
   have h8:(t:Int) < (t:Int)+1:=by omega
   refine ee (by kernel_rfl) (λ_ _ _ _ a=>a) 2 [7,9] _ _ (by kernel_rfl) ?_;iterate 2 (refine xT.take (v:=?_) rfl (by kernel_rfl) ?_ ?_;rotate_left;·(intro hw en;(try dsimp only at en);go_simp;try with_reducible rfl);try go_frame)
   refine xT.done ?_;try dsimp only
   obtain⟨d0,u⟩:=aU c5;have f1:=ag u (t * 7);have g2:=ag u (t * 7+1);have g5:=ag u (t * 7+2);have e8:=ag u (t * 7+3);have fG:=ag u (t * 7+4);have fu:=ag u (t * 7+5);have fn:=ag u (t * 7+6);obtain⟨gd,f7,fY,e1,eM,f8,gr⟩:=dL c5 X.1;have c0:w5.heap[w.heap.size+3]? =W (J #[V I 1,U ⟨#[]⟩,V I 0,V I 0,U ⟨#[]⟩,Y O 0 0,Y C t A] 78 (0,0)):=(cl.block _ (lt_of_heap (L.heap E (λe=>e))) (λe=>by have a:=(dn _ e.symm).1;omega)).trans (L.heap E (λe=>e));have hY:=ag c0 6;have dj:w.heap.size+3≠gg:=by omega
   have fs:gg≠w.heap.size+3:=by omega
   have hQ:∀(f:World),Far (·=gg) w5 f->f.frozen? ⟨w.heap.size+3,6,O⟩=false/\f.cell? ⟨w.heap.size+3,6,O⟩=W (Y C t A):=λf l=>⟨ag (l.heap c0 dj) 6,ae (l.heap c0 dj) 6⟩;have d3:gg < M.heap.size->R gg:=λa=>by
    rcases fz with e|e
    ·exact a0 _ e
    ·omega
   have gk:Far R M w5:=((hq.trans L).mono (D':=R) (λ_ _ e=>e.elim)).grown cl (λk e _=>a0 k e);have fv:∀H:World,H.heap[w.heap.size+3]? =W (J #[V I 1,U ⟨#[]⟩,V I 0,V I 0,U ⟨#[]⟩,Y O 0 0,Y (W ⟨gg,0,O⟩) (t+1) cap] 78 (0,0))->H.ownsRow (w.heap.size+9) 78 7 (Y (W ⟨gg,0,O⟩) (t+1) cap) (t+1) (c3++[V I k,U ba,V I bk,V I an,U a2,Y a3 a4 be,Y a9 a5 ao])->Far (λk=>k=gg\/k=w.heap.size+3) w5 H->
    ∃gl,LsI w b N (t+1) gl H/\Far R M H/\∀k,gl k->(R k\/al k\/f.heap.size<=k)/\(True->k < H.heap.size):=by
    intro H hk hj l;have e3:Far R M H:=gk.step l (λk c e=>by
     rcases e with rfl|rfl
     ·exact d3 c
     ·exact cf)
    have b9:Far (λk=>k=w.heap.size+3\/k=gg\/(Value.slice C t A).ownBlock=W k) P H:=((L.mono (λ_ _ e=>e.elim)).grown cl (λk e _=>.inr (.inr e))).step l (λk _ e=>by rcases e with e|e;exact .inr (.inl e);exact .inl e);have d2:∀k,(k=w.heap.size+3\/k=gg\/(Value.slice C t A).ownBlock=W k)->w.heap.size+3=k\/w.heap.size+9<=k:=λk a=>by
     rcases a with a|a|a
     ·exact .inl a.symm
     ·exact .inr (by omega)
     ·exact .inr (dn k a).1
    have gx:∀k,b8 k->gg≠k:=λk c e=>by
     rcases fz with gN|gN
     ·exact(G k c).2.2.2 (e ▸ gN)
     ·have:=cc k (G k c).1;omega
    have es:∀k,al k->gg≠k:=λk c e=>(a6.out k c).1 (e ▸ d3 (e ▸ (a6.out k c).2.1));have ac:∀k,al k->k≠w.heap.size+2/\k≠w.heap.size+3/\(Value.slice C t A).ownBlock≠W k:=λk c=>⟨λe=>(a6.out k c).1 (e ▸ ct),λe=>(a6.out k c).1 (e ▸ cf),λe=>(a6.out k c).1 (a0 k e)⟩;have hM:xU H (λk=>b8 k\/al k) (N.take (t+1)) (c3++[V I k,U ba,V I bk,V I an,U a2,Y a3 a4 be,Y a9 a5 ao]):=by
     rw[zG,hE.out];exact xU.snoc (xS.mono (λ_ a _=>.inr a) _ _ (xS.far b9 (λk c _ e=>by
      rcases e with e|e|e
      ·exact(ac k c).2.1 e
      ·exact es k c e.symm
      ·exact(ac k c).2.2 e) _ _ e5)) _ _ (xU.mono (λ_ a _=>.inl a) _ _ (xU.far b9 (λk c _ e=>by
      rcases e with e|e|e
      ·exact(G k c).2.2.1 e
      ·exact gx k c e.symm
      ·exact(G k c).2.2.2 e) _ _ b1))
    have it:=e3.size;have h3:=b9.size;have hm:gg < H.heap.size:=zK hD l.size;refine⟨λk=>R k\/al k\/(M.heap.size<=k/\k < H.heap.size),⟨?_,?_,.inl ct,.inl cf,b9.heap c4 (λe=>by rcases d2 _ e with a|a<;>omega),⟨_,_,λk=>b8 k\/al k,hk,hj,?_,hM,?_⟩,db.step b9 (λk c e=>by rcases d2 _ e with a|a<;>omega),b9.heap df (λe=>by rcases d2 _ e with a|a<;>omega)⟩,e3,?_⟩
    ·rintro k (a|a|a)
     ·have:=cc k a;omega
     ·have:=(a6.out k a).2.1;omega
     ·exact a.2
    ·rintro k (a|a|a)
     ·exact cb k a
     ·exact(a6.out k a).2.2
     ·have:=a.1;omega
    ·intro k e
     injection e with e;dsimp only at e
     subst e;rcases Nat.lt_or_ge gg M.heap.size with a|a
     ·exact .inl (d3 a)
     ·exact .inr (.inr ⟨a,hm⟩)
    ·rintro k (a|a)
     ·refine⟨.inl (G k a).1,(G k a).2.1,(G k a).2.2.1,λe=>?_⟩
      injection e with e;exact gx k a e
     ·refine⟨.inr (.inl a),(ac k a).1,(ac k a).2.1,λe=>?_⟩
      injection e with e;exact es k a e
    ·rintro k (a|a|a)
     ·exact⟨.inl a,λ_=>by have:=cc k a;omega⟩
     ·exact⟨.inr (.inl a),λ_=>by have:=(a6.out k a).2.1;omega⟩
     ·exact⟨.inr (.inr (by omega)),λ_=>a.2⟩
   have d4:=X.1;obtain⟨fX,b2,f2,fR⟩:=zx4 fv c5 c0 hQ;clear fv c5 c0 u gk L cc cb ct cf c4 E X a0 b1 db G e5 cl e6 dJ b6;have dp:Far (·=gg) w5 (((((((w5.setCell ⟨gg,t * 7,O⟩ (V I k)).setCell ⟨gg,t * 7+1,O⟩ (U ba)).setCell ⟨gg,t * 7+2,O⟩ (V I bk)).setCell ⟨gg,t * 7+3,O⟩ (V I an)).setCell ⟨gg,t * 7+4,O⟩ (U a2)).setCell ⟨gg,t * 7+5,O⟩ (Y a3 a4 be)).setCell ⟨gg,t * 7+6,O⟩ (Y a9 a5 ao)):=(((((((ξ (·=gg) w5).setCell (p:=⟨gg,t * 7,O⟩) (λ_=>rfl) _).setCell (p:=⟨gg,t * 7+1,O⟩) (λ_=>rfl) _).setCell (p:=⟨gg,t * 7+2,O⟩) (λ_=>rfl) _).setCell (p:=⟨gg,t * 7+3,O⟩) (λ_=>rfl) _).setCell (p:=⟨gg,t * 7+4,O⟩) (λ_=>rfl) _).setCell (p:=⟨gg,t * 7+5,O⟩) (λ_=>rfl) _).setCell (p:=⟨gg,t * 7+6,O⟩) (λ_=>rfl) _;refine aq [8,10] ?_;refine aj rfl (λK d=>?_) (aj rfl (λK d=>?_) xQ.nil)
   ·go_simp
    refine d.out _ _ (λa=>absurd (by simp) a) ?_;clear d K;try go_frame
    refine aq [10] ?_;refine aj rfl (λK d=>?_) xQ.nil;have bD:=fR.out _ dp;have e9:=bD.1;have f5:=bD.2;clear bD
    go_simp
    refine d.out _ _ (λa=>absurd (by simp) a) ?_;clear d K;refine aP (by kernel_rfl) ?_ _;exact fX.out _ (ai (dp.heap f2.out dj) 6 _) (am (bP _ _ _ _ _ _ _ b2.out d4) (Far.setCell (D:=(·=w.heap.size+3)) (ξ _ _) (p:=⟨w.heap.size+3,6,O⟩) (λ_=>rfl) _) (λk e a=>by injection e with e;exact fs (e.trans a))) (Far.setCell (D:=λk=>k=gg\/k=w.heap.size+3) (dp.mono (λ_ _ e=>.inl e)) (p:=⟨w.heap.size+3,6,O⟩) (λ_=>.inr rfl) _)
   ·have bD:=fR.out _ (ξ _ w5)
    have e9:=bD.1;have f5:=bD.2;clear bD dp
    go_simp
    refine d.out _ _ (λa=>absurd (by simp) a) ?_;clear d K;try go_frame
    have ej:Far (·=w.heap.size+3) w5 (w5.setCell ⟨w.heap.size+3,6,O⟩ (Y (W ⟨gg,0,O⟩) (t+1) cap)):=Far.setCell (D:=(·=w.heap.size+3)) (ξ _ _) (p:=⟨w.heap.size+3,6,O⟩) (λ_=>rfl) _;have dv:=am b2.out ej (λk e a=>by injection e with e;exact fs (e.trans a));have gJ:=ai f2.out 6 (Y (W ⟨gg,0,O⟩) (t+1) cap);clear f1 g2 g5 e8 fG fu fn gd f7 fY e1 eM f8 gr e9 f5;generalize hW6:w5.setCell ⟨w.heap.size+3,6,O⟩ (Y (W ⟨gg,0,O⟩) (t+1) cap)=ei at ej dv gJ ⊢;clear hW6;obtain⟨d0,u⟩:=aU dv;have f1:=ag u (t * 7);have g2:=ag u (t * 7+1);have g5:=ag u (t * 7+2);have e8:=ag u (t * 7+3);have fG:=ag u (t * 7+4);have fu:=ag u (t * 7+5);have fn:=ag u (t * 7+6);obtain⟨gd,f7,fY,e1,eM,f8,gr⟩:=dL dv d4;refine aq [8] ?_;refine aj rfl (λK d=>?_) xQ.nil
    go_simp
    refine d.out _ _ (λa=>absurd (by simp) a) ?_;clear d K;refine aP (by kernel_rfl) ?_ _;have eq:Far (·=gg) ei (((((((ei.setCell ⟨gg,t * 7,O⟩ (V I k)).setCell ⟨gg,t * 7+1,O⟩ (U ba)).setCell ⟨gg,t * 7+2,O⟩ (V I bk)).setCell ⟨gg,t * 7+3,O⟩ (V I an)).setCell ⟨gg,t * 7+4,O⟩ (U a2)).setCell ⟨gg,t * 7+5,O⟩ (Y a3 a4 be)).setCell ⟨gg,t * 7+6,O⟩ (Y a9 a5 ao)):=(((((((ξ (·=gg) ei).setCell (p:=⟨gg,t * 7,O⟩) (λ_=>rfl) _).setCell (p:=⟨gg,t * 7+1,O⟩) (λ_=>rfl) _).setCell (p:=⟨gg,t * 7+2,O⟩) (λ_=>rfl) _).setCell (p:=⟨gg,t * 7+3,O⟩) (λ_=>rfl) _).setCell (p:=⟨gg,t * 7+4,O⟩) (λ_=>rfl) _).setCell (p:=⟨gg,t * 7+5,O⟩) (λ_=>rfl) _).setCell (p:=⟨gg,t * 7+6,O⟩) (λ_=>rfl) _;exact fX.out _ (eq.heap gJ dj) (bP _ _ _ _ _ _ _ dv d4) ((ej.mono (λ_ _ e=>.inr e)).trans (eq.mono (λ_ _ e=>.inl e))))
 case done=>
  rintro R f hI e2 d a1;have dA:=av.out;rw[dA]at d a1 ⊢;obtain⟨cc,cb,ct,cf,c4,⟨bw,c3,b8,E,X,a0,b1,G⟩,db,df⟩:=hI;rw[List.take_length]at b1;have ac:∀k,(b8 k\/bw.ownBlock=W k)->w.heap.size<=k/\k≠w.heap.size+2/\k≠w.heap.size+7:=λk a=>by
   rcases a with a|a
   ·exact⟨cb k (G k a).1,(G k a).2.1,a1 k (G k a).1⟩
   ·exact⟨cb k (a0 k a),by have:=(X.lt k a).1;omega,a1 k (a0 k a)⟩
  have F:xS f (λk=>b8 k\/bw.ownBlock=W k) ⟨1,[],Tp.Sc.null,[],N⟩ [V I 1,U ⟨#[]⟩,V I 0,V I 0,U ⟨#[]⟩,Y O 0 0,bw]:=by
   unfold xS;exact⟨_,bw,c3,rfl,cy _ _,xU.mono (λ_ a _=>.inl a) _ _ b1,(cx X).mono (λ_ a _=>.inr a)⟩
  have ef:=hO b g v y z hf _ _ _ f e2 ht.out (λk a e=>by have:=(ac k a).1;omega) F;rw[hL]at ef;obtain⟨C,dl,A,rfl⟩:∃C dl A,bw=Y C dl A:=by
   rcases X.2 with ⟨bx,g0⟩|⟨hh,hp,d0,bx,_⟩
   ·exact⟨_,_,_,bx⟩
   ·exact⟨_,_,_,bx⟩
  have hG:=zF df 0 rfl;have hi:=zF E 0 rfl;have t1:=zF E 1 rfl;have t2:=zF E 2 rfl;have hK:=zF E 3 rfl;have hy:=zF E 4 rfl;have hT:=zF E 5 rfl;have hc:=zF E 6 rfl;obtain⟨gZ,d1,d6,b2,hF⟩:=zx5 ef ac d c4 db;clear ef ac F e2 d cc cb ct cf c4 E X a0 b1 db G df a1
  go_wp2_with fail
  refine gZ.out.mono ?_;rintro e g4 ⟨⟨rfl,F⟩,s,l⟩;have b5:=l.heap b2.out (by omega);have c:=l.heap d6.out (by omega);have ad:=hF.out.trans l;have h2:=ag b5 0;have h7:=zF b5 0 rfl;obtain⟨hH,hA,hb,b2,d6⟩:=zx5 F s ad b5 c;clear F s l b5 c ad gZ hi t1 t2 hK hy hT hc hG
  go_wp2_with fail
  have bq:Far (·=w.heap.size+2) g4 (g4.setCell ⟨w.heap.size+1+1,0,O⟩ (.iface 487 (γ #[V I 1,U ⟨#[]⟩,V I 0,V I 0,U ⟨#[]⟩,Y O 0 0,Y C dl A]))):=Far.setCell (D:=(·=w.heap.size+2)) (ξ _ _) (p:=⟨w.heap.size+1+1,0,O⟩) (λ_=>rfl) _;have b5:=ai b2.out 0 (.iface 487 (γ #[V I 1,U ⟨#[]⟩,V I 0,V I 0,U ⟨#[]⟩,Y O 0 0,Y C dl A]));refine au (q:=w.heap.size+7) rfl (bq.heap d6.out (by omega)) ?_;intro ab b3;have cS:=ae (b3.heap b5 (by omega)) 0;refine⟨_,eB results296 ab (w.heap.size+2) _ _ cS rfl ⟨_,_,rfl⟩,⟨_,rfl,xS.base (xS.far b3 (λk a _ e=>(d1.out k a).2.2 e) _ _ (xS.far bq (λk a _ e=>(d1.out k a).2.1 e) _ _ hH.out)) (λk a=>(d1.out k a).1)⟩,(hA.out.far bq (by omega) (by omega)).far b3 (by omega) (by omega),(hb.out.step bq (λk c e=>by omega)).step b3 (λk c e=>by omega)⟩
end
def AV(n c:Nat)(a:List Tp.Tk)(p:Nat)(x:Tp.Sc × Tp.Tree)(q:Nat):Prop:=p<=q/\q<=a.length/\∃m b,m < n/\a[p]? =W b/\Tp.fkey b=W x.1/\xY a (p+1) [6]=true/\Tp.fval m c (a.drop (p+2))=W (x.2,a.drop q)
theorem gm(b:List Tp.Tk)(n w:Nat):∀(m p:Nat) (C:List Tp.Sc) (D:List Tp.Tree) (rest:List Tp.Tk),m<=n->p<=b.length->Tp.fdict m w (b.drop p)=W (C,D,rest)->∃xs z t,ym (AV n w b) b 11 p xs z/\xs.map (·.1)=C/\xs.map (·.2)=D/\b[z]? =W t/\t.k=11/\rest=b.drop (z+1)/\p<=z
 |0,p,C,D,rest,_,_,a=>by simp[Tp.fdict]at a
 |m+1,p,C,D,rest,hm,hp,a=>by
  unfold Tp.fdict at a;obtain⟨l,f⟩:∃l,b.drop p=l:=⟨_,rfl⟩;have j:=aV b p [11];have e:=aV b (p+1) [6];have a4:b.drop (p+1)=l.drop 1:=by rw[<-f,List.drop_drop]
  have i:b.drop (p+2)=l.drop 2:=by rw[<-f,List.drop_drop]
  rw[a4]at e;rw[f]at a j
  match l,f,j,e,i,a with
  | [],f,j,e,i,a=>cases a
  |t::u,f,j,e,i,a=>
   have P:p < b.length:=by
    rcases Nat.lt_or_ge p b.length with a|a
    ·exact a
    ·rw[List.drop_eq_nil_of_le a]at f;cases f
   have r:=zW P;rw[f]at r;injection r with hd1 hd2;have S:b[p]? =W t:=by rw[zE P,hd1]
   simp only at a j;by_cases A:t.k=11
   ·rw[if_pos A]at a
    injection a with a;injection a with L a;injection a with G h3;subst L G h3;refine⟨[],p,t,?_,rfl,rfl,S,A,hd2,η _⟩;unfold ym;exact⟨by rw[j,A];rfl,rfl⟩
   ·rw[if_neg A]at a
    have R:xY b p [11]=false:=by rw[j];simp[A]
    cases H:Tp.fkey t with
    |none=>rw[H]at a;simp at a
    |some x=>
    rw[H]at a
    match u,hd2,e,i,a with
    | [],hd2,e,i,a=>simp at a
    |c::s,hd2,e,i,a=>
     simp only[List.drop_succ_cons,List.drop_zero]at a e i;by_cases N:c.k=6
     case neg=>rw[if_pos N]at a;cases a
     rw[if_neg (by simp[N])]at a;have a3:xY b (p+1) [6]=true:=by rw[e];simp[N]
     have a0:p+2<=b.length:=by
      have:=congrArg List.length hd2;rw[zZ]at this;simp at this
      omega
     cases g:Tp.fval m w s with
     |none=>rw[g]at a;cases a
     |some y=>
     obtain⟨v,F⟩:=y;rw[g]at a;have X:=(jm m).1 _ _ _ _ g;rw[<-i]at X g;obtain⟨d,a5⟩:=de b (p+2) F a0 X;obtain⟨q,ao⟩:∃q,b.length - F.length=q:=⟨_,rfl⟩;rw[ao]at d a5;have a6:q<=b.length:=by omega
     have o:=λk=>aV b q [k];rw[<-d]at o
     match F,d,g,o,a with
     | [],d,g,o,a=>cases a
     |y::z,d,g,o,a=>
      have ab:q < b.length:=by
       rcases Nat.lt_or_ge q b.length with a|a
       ·exact a
       ·rw[List.drop_eq_nil_of_le a]at d;cases d
      have r:=zW ab;rw[<-d]at r;injection r with hd1 hd2;have T:AV n w b p (x,v) q:=⟨by omega,a6,m,t,by omega,S,H,a3,by rw[<-d];exact g⟩;simp only at a o;by_cases E:y.k=7
      ·rw[if_pos E]at a
       obtain⟨M,L,G⟩:=zN.1 a;injection G with e1 e2;injection e2 with e2 e3;obtain⟨xs,al,ad,a2,ac,av,an,a9,a1,ba⟩:=gm b n w m (q+1) M.1 M.2.1 M.2.2 (by omega) (by omega) (by rw[<-hd2];exact L);refine⟨(x,v)::xs,al,ad,?_,by rw[<-e1,List.map_cons,ac],by rw[<-e2,List.map_cons,av],an,a9,e3 ▸ a1,by omega⟩;unfold ym;exact⟨R,q,T,.inl ⟨by rw[o];simp[E],a2⟩⟩
      ·rw[if_neg E]at a
       split at a
       ·rename_i h9'
        injection a with a;injection a with e1 e2;injection e2 with e2 e3;subst e1 e2;refine⟨[(x,v)],q,y,?_,rfl,rfl,by rw[zE ab,<-hd1],h9',by rw[<-e3,hd2],by omega⟩;unfold ym;exact⟨R,q,T,.inr ⟨by rw[o];simp[E],rfl,rfl⟩⟩
       ·cases a
theorem sq(n:Nat)(w:∀m,m < n->zt m)(d g:Nat)(v:Value)(c:List Tp.Tk)(b:Nat)(D:10<=d)(u r:Nat)(p q:Nat)(x:Tp.Sc × Tp.Tree)(C:AV n (b+1) c p x q)(N:b<=100)(a:World)(F:yg a d g v c p)(o:a.heap[u]? =W (J #[Z (W ⟨d,0,O⟩)] 427 (0,0)))(i:a.heap[r]? =W (J #[V I (b:Int)] 3 (0,0)))(H:Glob a):
 Calls π 316 #[Z (W ⟨u,0,O⟩),Z (W ⟨r,0,O⟩)] a (A3 d g v c q a x.1 x.2):=by
 obtain⟨R,X,m,E,L,j,k,y,s⟩:=C;have f:=qr m (w m L) d g v c p (b+1) E x.1 x.2 _ a F H D j k y s;rw[zZ,show c.length - (c.length - q)=q by omega]at f;have T:=zF o 0 rfl;have S:=zF i 0 rfl;have t:=zD f;clear f o i s w j k y
 go_enter func316,ntmps316
 go_wp2_with fail
 rw[show ((b:Int)+1)=((b+1:Nat):Int)by omega];refine t.out.mono ?_;rintro e P ⟨⟨A,rfl,l⟩,z,M⟩;have G:=zD l;clear l t
 go_wp2_with fail
 go_ret
 exact⟨⟨A,rfl,G.out⟩,z,M⟩
end Go.Proofs.YtbikgdhbiebhcaaGreatDoor
