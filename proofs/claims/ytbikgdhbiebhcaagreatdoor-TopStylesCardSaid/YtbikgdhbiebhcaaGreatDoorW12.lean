/- Part 12. -/
import Derived.Test.YtbikgdhbiebhcaaGreatDoorW11
set_option linter.unusedVariables false
set_option linter.unusedSimpArgs false
set_option maxRecDepth 100000
set_option maxHeartbeats 2000000
open Go.Value renaming int -> V, string -> U, slice -> Y, pointer -> Z, func -> φ, agg -> γ, bool -> β
open Go.IntKind renaming i64 -> I
open Option renaming some -> W, none -> O
open Go.Obj renaming cells -> J
open Go.Ending renaming returned -> ρ
open Go.Proofs.Tryz renaming prog -> π
open Nat renaming le_refl -> η
open And renaming intro -> θ
open Go.RowKit.Below renaming refl -> ζ
namespace Go.Proofs.YtbikgdhbiebhcaaGreatDoor
open Go.RowKit Tryz
section
attribute [local go_sem] ak
theorem uz(a:World):(Instr.typeAssert (.iface 310 (γ #[])) 308 310 true).run π a=.ok (.tuple #[γ #[],β true]) a:=by kernel_rfl
theorem uy(a:World):(Instr.typeAssert (.iface 311 (γ #[])) 308 311 true).run π a=.ok (.tuple #[γ #[],β true]) a:=by kernel_rfl
def asT(a:Bool):Nat:=if a then 311 else 310
def asV(a:Bool):Value:=.iface (asT a) (γ #[])
def asF(a:Bool):Nat:=if a then 387 else 386
theorem qq(a:World):Calls π 386 #[γ #[],.iface 310 (γ #[])] a λe w'=>e=ρ (β true)/\Below a.heap.size a w':=by
 have b:=uz
 go_enter func386,ntmps386
 go_wp2_with fail
 go_ret
 exact⟨rfl,((ζ _ _).alloc (η _) _).alloc (by simp) _⟩
theorem qo(a:World):Calls π 387 #[γ #[],.iface 311 (γ #[])] a λe w'=>e=ρ (β true)/\Below a.heap.size a w':=by
 have b:=uy
 go_enter func387,ntmps387
 go_wp2_with fail
 go_ret
 exact⟨rfl,((ζ _ _).alloc (η _) _).alloc (by simp) _⟩
def A8(d:List Tp.En)(c:NS)(t:Nat)(a:Array Value)(b:NS)(f:World):Prop:=(∃e v,d[t]? =W e/\a=#[γ #[V I e.no,V I e.col,v]]/\Row f c e.l.length v (xZ e.l))/\b=xO
def AX(a:Bool)(l:List Tp.Tk):Prop:=Tp.isDash l=(!a)/\(a=true->Tp.isKey l=true)
theorem ji{d:Bool}{l:List Tp.Tk}(c:AX d l):zc l=asV d/\Tp.isName1 l=false:=by
 unfold zc asV asT;rw[c.1];cases d with
 |true=>
  have a:=c.2 rfl;refine⟨by simp[a],?_⟩
  match l,a with
  | [],a=>simp[Tp.isKey]at a
  | [t],a=>simp[Tp.isKey]at a
  |t::u::r,_=>rfl
 |false=>
  refine⟨by simp,?_⟩;have b:=c.1
  match l,b with
  | [],b=>simp[Tp.isDash]at b
  | [t],b=>simp[Tp.isDash]at b;simp[Tp.isName1,b]
  |t::u::r,_=>rfl
def Ay(b:Nat)(a:World):Nat:=match a.cell? ⟨b,0,O⟩with|some (Y _ n _)=>n|_=>0
theorem yp.len_at{f:NS}{w:World}{a i g:Nat}{b:List Tp.En}(d:yp w a i g f b):Ay a w=b.length:=by
 obtain⟨⟨T,c,cap,e,_⟩,_⟩:=d;unfold Ay;rw[show w.cell? ⟨a,0,O⟩=W (Y c b.length cap)from ae e 0]
theorem jS(d:Bool)(M:List Tp.En)(f:Int)(z:Nat)(ad:NS)(F m i:Nat)(w:World)(D:w.heap[F]? =W (.cells #[Z (W ⟨z,0,O⟩)] 149 (0,0)))(R:w.heap[m]? =W (.cells #[V I f] 3 (0,0)))(E:w.heap[i]? =W (.cells #[asV d] 308 (0,0)))(dp:∀e∈M,e.col=f/\AX d e.l):
 yQ π 235 #[Z (W ⟨F,0,O⟩),Z (W ⟨m,0,O⟩),Z (W ⟨i,0,O⟩)] 3 M.length (A8 M ad) xO (λk=>k=F\/k=m\/k=i) True (λt b=>∃a3 bk,yp b z a3 bk ad (M.drop t)) (λ_=>True) w:=by
 intro l J f4 e3 b an ck hF0 bw d5 j b2 d1;have eg:=(an.block _ (lt_of_heap D)).trans D;have c9:=(an.block _ (lt_of_heap R)).trans R;have df:=(an.block _ (lt_of_heap E)).trans E;obtain⟨B,b6⟩:∃B,w.heap.size=B:=⟨_,rfl⟩;obtain⟨ao,ca⟩:∃ao,M.length=ao:=⟨_,rfl⟩;rw[b6]at bw d5;rw[ca]at b2 ⊢;have c1:=an.size;rw[b6]at c1;obtain⟨ft,b4,d0,fR,a5,e0⟩:=zx6 b2 j bw dp ca eg;obtain⟨fz,fn,e2,fr⟩:=zx4 c9 df d1 hF0;clear b2 j bw d5 dp ca D R E eg c9 df d1 hF0 an ck b6
 go_enter func235,ntmps235
 go_wp2_with fail
 go_step3
 go_wp2_with fail
 go_step3
 go_wp2_with fail
 go_loopw [6] (λ_ wr=>∃(t:Nat) (y:NS),t<=ao/\J t y wr/\wr.heap[F]? =W (.cells #[Z (W ⟨z,0,O⟩)] 149 (0,0))/\wr.heap[m]? =W (.cells #[V I f] 3 (0,0))/\wr.heap[i]? =W (.cells #[asV d] 308 (0,0))/\(∀k,y k->k≠F/\k≠m/\k≠i)/\B<=wr.heap.size) (λ_ wr=>Ay z wr)
 case atStart=>exact⟨0,e3,z_ _,e2.out,e0.out,fz.out,fn.out,λk c=>by have:=(fr.out k c).2;exact⟨λe=>this (.inl e),λe=>this (.inr (.inl e)),λe=>this (.inr (.inr e))⟩,c1⟩
 case round=>
  obtain⟨t,y,f5,S,D,R,E,b1,ck⟩:=hrel;obtain⟨a3,bk,H⟩:=(b4.out t y wr S).1;have bn:=H.len_at
  rw[zZ,a5.out]at bn;have fl:=zD bn;clear bn;have b3:=(b4.out t y wr S).2 trivial;have ga:=zF D 0 rfl;by_cases bD:t < ao
  ·obtain⟨e,a9⟩:∃e,M[t]? =W e:=⟨_,zE (by rw[a5.out];exact bD)⟩
   rw[aE M t e a9]at H;obtain⟨v,ba,T⟩:=cM z a3 bk ad e _ wr H;obtain⟨o,p,r,rfl⟩:∃a n co,v=Y a n co:=by obtain⟨a,_,_,co,c,_⟩:=ba;exact⟨_,_,_,c⟩
   obtain⟨a4,ct⟩:=fR.out e (zL a9);obtain⟨dc,cf⟩:=ji ct;have bx:=λb (ab:Far xO wr b)=>cr e.no e.col (Y o p r) e.l ad b (ba.far ab (λ_ _ _ e=>e)) cf;rw[dc,a4]at bx;rw[a4]at T;have d4:=λb (ab:Far xO wr b)=>ft.out t bD y xO #[γ #[V I e.no,V I f,Y o p r]] b (d0.out t y wr b S (ab.mono (λ_ _ e=>e.elim))) ⟨⟨e,_,a9,by rw[a4],ba.far ab (λ_ _ _ e=>e)⟩,rfl⟩ (λk c=>c.elim);obtain⟨a0,e9,e6⟩:=zx3 T bx d4;have C:=zD (θ D (θ R E));obtain⟨X,b9⟩:=zx2 b1 b3;clear T bx d4 ba a4 ct dc cf a9 H D R E b1 b3 S
   go_wp2_with fail
   refine a0.out.mono ?_;rintro x A ⟨rfl,ac⟩;have a2:Far xO wr (A.alloc (.cells #[V I e.no,V I f,Y o p r] 220)):=(Far.of_below ac xO).alloc _;have av:=af A (.cells #[V I e.no,V I f,Y o p r] 220);obtain⟨q,cv⟩:∃q,A.heap.size=q:=⟨_,rfl⟩;rw[cv]at av;have f8:wr.heap.size<=q:=by have:=ac.size;omega
   go_upto_region 1 with (fail)
   have d6:(λb=>b.cell? ⟨q,0,O⟩=W (V I e.no)/\b.cell? ⟨q,1,O⟩=W (V I f)/\b.cell? ⟨q,2,O⟩=W (Y o p r)/\b.cell? ⟨m,0,O⟩=W (V I f)/\b.cell? ⟨i,0,O⟩=W (.iface (asT d) (γ #[]))) (A.alloc (.cells #[V I e.no,V I f,Y o p r] 220)):=⟨ae av 0,ae av 1,ae av 2,ae (a2.heap C.out.2.1 id) 0,ae (a2.heap C.out.2.2 id) 0⟩;generalize (A.alloc (.cells #[V I e.no,V I f,Y o p r] 220))=al at *;obtain⟨s,d2⟩:=zx2 d6 a2;clear d6 a2 av cv ac a0;have ex:∀b,(Go.method 653 (asT d) (γ #[]) "sigillary/block.isSame").run π b=.ok (asF d,γ #[]) b:=λb=>by cases d<;>kernel_rfl
   have f0:∀b,(nilAhead 653 (asT d) (γ #[]) "sigillary/block.isSame").run π b=.ok (W false) b:=λb=>by cases d<;>kernel_rfl
   refine wp_region_noPanic ?_;refine(wpIn_wide (n:=4)).1 ?_;refine cK (λb=>b.cell? ⟨q,0,O⟩=W (V I e.no)/\b.cell? ⟨q,1,O⟩=W (V I f)/\b.cell? ⟨q,2,O⟩=W (Y o p r)/\b.cell? ⟨m,0,O⟩=W (V I f)/\b.cell? ⟨i,0,O⟩=W (.iface (asT d) (γ #[]))) [] (by kernel_rfl) ?_;refine fV (by kernel_rfl) (λ_ _ _ _ c=>c) (show (λb=>b.cell? ⟨q,0,O⟩=W (V I e.no)/\b.cell? ⟨q,1,O⟩=W (V I f)/\b.cell? ⟨q,2,O⟩=W (Y o p r)/\b.cell? ⟨m,0,O⟩=W (V I f)/\b.cell? ⟨i,0,O⟩=W (.iface (asT d) (γ #[]))) al.drew from s.out) 10 [0,1,2,3,4,5,6,7,8,9,10,12,13,14] _ _ (by kernel_rfl) ?_;iterate 14 (refine ax (v:=?_) ?_ ?_;rotate_left;·(intro P g;(try dsimp only at g);(try obtain⟨b5,b0,bm,b8,bs⟩:=g);go_simp;try with_reducible rfl);(try go_frame))
   refine xT.done ?_;try dsimp only
   refine dQ [11] (by kernel_rfl) (by simp) ?_;refine yj.cons rfl (by kernel_rfl) (λK j=>?_) yj.nil
   go_simp
   refine⟨trivial,callsIn_wide.2 ((e9.out _ d2.out.drew).mono ?_)⟩;rintro x en ⟨rfl,c3⟩;have N:Far xO al en:=((ξ _ al).drew).below c3;have cm:(λb=>b.cell? ⟨q,0,O⟩=W (V I e.no)/\b.cell? ⟨q,1,O⟩=W (V I f)/\b.cell? ⟨q,2,O⟩=W (Y o p r)/\b.cell? ⟨m,0,O⟩=W (V I f)/\b.cell? ⟨i,0,O⟩=W (.iface (asT d) (γ #[]))) en:=⟨N.at s.out.1 (id),N.at s.out.2.1 (id),N.at s.out.2.2.1 (id),N.at s.out.2.2.2.1 (id),N.at s.out.2.2.2.2 (id)⟩;obtain⟨e4,f1⟩:=zx2 cm N;refine j.out _ _ (λ_=>e4.out) ?_;clear j K cm N c3
   (try go_frame)
   have cl:∀b,Calls π (asF d) #[γ #[],asV d] b λe w'=>e=ρ (β true)/\Below b.heap.size b w':=λb=>by
    cases d with
    |true=>exact qo b
    |false=>exact qq b
   have fv:∀args b,(callFunc (asF d) args).run π b=.ok (.enter (asF d) args) b:=λargs b=>by cases d<;>kernel_rfl
   have er:=zD cl;clear cl;refine dQ [15] (by kernel_rfl) (by simp) ?_;refine yj.cons rfl (by kernel_rfl) (λK j=>?_) yj.nil
   go_simp
   refine⟨trivial,callsIn_wide.2 ((er.out _).mono ?_)⟩;rintro x bR ⟨rfl,c4⟩;have G:Far xO al bR:=f1.out.below c4;have cc:(λb=>b.cell? ⟨q,0,O⟩=W (V I e.no)/\b.cell? ⟨q,1,O⟩=W (V I f)/\b.cell? ⟨q,2,O⟩=W (Y o p r)/\b.cell? ⟨m,0,O⟩=W (V I f)/\b.cell? ⟨i,0,O⟩=W (.iface (asT d) (γ #[]))) bR:=⟨G.at s.out.1 (id),G.at s.out.2.1 (id),G.at s.out.2.2.1 (id),G.at s.out.2.2.2.1 (id),G.at s.out.2.2.2.2 (id)⟩;have L:=zD cc;have a1:=zD (d2.out.trans G);refine j.out _ _ (λ_=>L.out) ?_;clear j K cc G c4 fv ex f0
   (try go_frame)
   refine fV (by kernel_rfl) (λ_ _ _ _ c=>c) L.out 3 [16,17,18,19,20] _ _ (by kernel_rfl) ?_;iterate 5 (refine ax (v:=?_) ?_ ?_;rotate_left;·(intro P g;(try dsimp only at g);(try obtain⟨b5,b0,bm,b8,bs⟩:=g);go_simp;try with_reducible rfl);(try go_frame))
   refine xT.done ?_;try dsimp only
   obtain⟨gb,f7,assign,body,e7,ch⟩:=e6.out bR a1.out;have d3:=zD ch;clear ch;refine dQ [21] (by kernel_rfl) (by simp) ?_;refine yj.cons rfl (by kernel_rfl) (λK j=>?_) yj.nil
   go_simp
   refine(d3.out).mono ?_;have f9:=a1.out.size;rintro x a6 ⟨be,⟨u,c0⟩,e8⟩;have c2:(λb=>b.cell? ⟨q,0,O⟩=W (V I e.no)/\b.cell? ⟨q,1,O⟩=W (V I f)/\b.cell? ⟨q,2,O⟩=W (Y o p r)/\b.cell? ⟨m,0,O⟩=W (V I f)/\b.cell? ⟨i,0,O⟩=W (.iface (asT d) (γ #[]))) a6:=⟨u.at L.out.1 (λe=>by have c:=b9.out _ e;dsimp only at c;omega),u.at L.out.2.1 (λe=>by have c:=b9.out _ e;dsimp only at c;omega),u.at L.out.2.2.1 (λe=>by have c:=b9.out _ e;dsimp only at c;omega),u.at L.out.2.2.2.1 (λe=>(X.out _ e).2.1 rfl),u.at L.out.2.2.2.2 (λe=>(X.out _ e).2.2 rfl)⟩;have db:=u.heap (a1.out.heap C.out.1 id) (λe=>(X.out _ e).1 rfl);have ds:=u.heap (a1.out.heap C.out.2.1 id) (λe=>(X.out _ e).2.1 rfl);have dn:=u.heap (a1.out.heap C.out.2.2 id) (λe=>(X.out _ e).2.2 rfl);have f6:F < wr.heap.size/\m < wr.heap.size/\i < wr.heap.size:=⟨lt_of_heap C.out.1,lt_of_heap C.out.2.1,lt_of_heap C.out.2.2⟩;have da:∀k,be k->k≠F/\k≠m/\k≠i:=λk c=>by
    rcases c0 k c with c|c|c
    ·exact X.out k c
    ·exact c.elim
    ·omega
   have c5:B<=a6.heap.size:=by have:=u.size;omega
   have bb:=zD c2;have f2:=zD (θ db (θ ds (θ dn (θ da c5))));clear c2 u c0 db ds dn da c5 d3 e7;rcases e8 with ⟨rfl,cb⟩|⟨rfl,dr⟩
   ·have c6:=zD cb
    clear cb;refine j.out _ _ (λ_=>bb.out) ?_;clear j K
    (try go_frame)
    refine fV (by kernel_rfl) (λ_ _ _ _ c=>c) bb.out 0 [22,23] _ _ (by kernel_rfl) ?_;iterate 2 (refine ax (v:=?_) ?_ ?_;rotate_left;·(intro P g;(try dsimp only at g);(try obtain⟨b5,b0,bm,b8,bs⟩:=g);go_simp;try with_reducible rfl);(try go_frame))
    refine xT.done ?_;try dsimp only
    refine rD (by kernel_rfl) (NoPanic.normal ?_) _;have dv:Ay z a6 < Ay z wr:=by
     obtain⟨_,_,es⟩:=(b4.out (t+1) be a6 c6.out).1;have c:=es.len_at
     rw[zZ,a5.out]at c;have:=fl.out;omega
    have fG:=zD dv;clear dv
    go_wp2_with fail
    go_roundw
    case rel=>exact⟨t+1,bD,be,c6.out,f2.out⟩
    case measure=>exact fG.out
   ·have f3:=zD dr
    clear dr;refine j.out _ _ (λ_=>bb.out) ?_;clear j K
    (try go_frame)
    refine fV (by kernel_rfl) (λ_ _ _ _ c=>c) bb.out 0 [22,23] _ _ (by kernel_rfl) ?_;iterate 2 (refine ax (v:=?_) ?_ ?_;rotate_left;·(intro P g;(try dsimp only at g);(try obtain⟨b5,b0,bm,b8,bs⟩:=g);go_simp;try with_reducible rfl);(try go_frame))
    refine xT.done ?_;try dsimp only
    refine rD (by kernel_rfl) (NoPanic.normal ?_) _
    go_wp2_with fail
    try rw[Exit.noGoto_normal]
    go_end0
    exact⟨⟨_,rfl⟩,.inr ⟨be,f3.out⟩⟩
  ·obtain rfl:t=ao:=by omega
   rw[List.drop_of_length_le (by rw[a5.out];exact η _)]at H;have T:=je z a3 bk ad wr H;have eq:=λb (ab:Far xO wr b)=>d0.out t y wr b S (ab.mono (λ_ _ e=>e.elim));obtain⟨a0,e5⟩:=zx2 T eq;clear T eq H b1 b3 S D R E
   go_wp2_with fail
   refine a0.out.mono ?_;rintro x A ⟨rfl,ac⟩;have ei:Far xO wr (A.alloc (.cells #[V I 0,V I 0,Y O 0 0] 220)):=(Far.of_below ac xO).alloc _;have e1:=zD ei;clear ac ei a0
   go_upto_region 1 with (fail)
   generalize (A.alloc (.cells #[V I 0,V I 0,Y O 0 0] 220))=al at *;refine wp_region_noPanic ?_;refine(wpIn_wide (n:=4)).1 ?_;refine cK (λb=>True) [] (by kernel_rfl) ?_;refine fV (by kernel_rfl) (λ_ _ _ _ c=>c) trivial 0 [0,1,2,3,4,5,6,7,8,9,10,11,12,13,14,15,16,17,18,19,20,21,22,23] _ _ (by kernel_rfl) ?_;iterate 3 (refine ax (v:=?_) ?_ ?_;rotate_left;·(intro P g;(try dsimp only at g);go_simp;try with_reducible rfl);(try go_frame))
   iterate 4 (refine aB rfl (by simp only[zH,zI,zJ];rfl) (by kernel_rfl) ?_;(try go_frame))
   iterate 2 (refine ax (v:=?_) ?_ ?_;rotate_left;·(intro P g;(try dsimp only at g);go_simp;try with_reducible rfl);(try go_frame))
   iterate 8 (refine aB rfl (by simp only[zH,zI,zJ];rfl) (by kernel_rfl) ?_;(try go_frame))
   iterate 2 (refine ax (v:=?_) ?_ ?_;rotate_left;·(intro P g;(try dsimp only at g);go_simp;try with_reducible rfl);(try go_frame))
   iterate 4 (refine aB rfl (by simp only[zH,zI,zJ];rfl) (by kernel_rfl) ?_;(try go_frame))
   iterate 1 (refine ax (v:=?_) ?_ ?_;rotate_left;·(intro P g;(try dsimp only at g);go_simp;try with_reducible rfl);(try go_frame))
   refine xT.done ?_;try dsimp only
   refine rD (by kernel_rfl) (NoPanic.normal ?_) _
   go_wp2_with fail
   try rw[Exit.noGoto_normal]
   go_end0
   exact⟨⟨_,rfl⟩,.inl ⟨y,e5.out _ e1.out.drew,trivial⟩⟩
end
section
attribute [local go_sem] ak
theorem bi:∀a:List Tp.Tk,(xZ a).length=a.length * 3
 | []=>rfl
 |t::r=>by
  have b:=bi r;have e:xZ (t::r)=[V I t.k,xR t.s,V I (t.a:Int)]++xZ r:=rfl;rw[e,zP,b,zO,zO,zO,List.length_nil,zO];omega
theorem Row.dropTk{w:World}{d:NS}{n f g o:Nat}{a:Option Addr}{b:List Tp.Tk}(t:Row w d n (Y a n f) (xZ b))(z:n=b.length)(j:Nat)(D:j < b.length)(u:a=W ⟨g,o,O⟩):Row w d (n - j) (Y (W ⟨g,o+j * 3,O⟩) (n - j) (f - j)) (xZ (b.drop j)):=by
 obtain⟨A,x,y,cap,m,v,r,l⟩:=t;injection m with e1 _ e3;subst e1 e3 u;have c:xZ b≠[]:=λe=>by have:=bi b;rw[e]at this;simp at this;omega
 obtain⟨e,k,p⟩:=l c;injection e with e;injection e with e1 e2;subst e1 e2;refine⟨_,_,_,_,rfl,⟨by omega,by omega⟩,λ_=>r c,λ_=>⟨rfl,k,λi C q=>?_⟩⟩;rw[Nat.add_assoc];refine p _ _ ?_;have s:xZ b=xZ (b.take j)++xZ (b.drop j):=by
  conv=>lhs;rw[<-List.take_append_drop j b]
  unfold xZ;rw[List.flatMap_append]
 rw[s,zV (by rw[bi,List.length_take];omega),bi,List.length_take,show j * 3+i - min j b.length * 3=i by rw[Nat.min_eq_left (by omega)];omega];exact q
theorem nQ(a g f:Nat)(d:NS)(l:Int)(w:World)(c:yp w a g f d []):Calls π 201 #[Z (W ⟨a,0,O⟩),V I l] w λe w'=>e=ρ .nilIface/\Below w.heap.size w w':=by
 have j:=zD (je a g f d w c);clear c
 go_enter func201,ntmps201
 go_wp2_with fail
 refine j.out.mono ?_;rintro x k ⟨rfl,b⟩;have i:Below w.heap.size w (k.alloc (J #[V I 0,V I 0,Y O 0 0] 220)):=b.alloc b.size _;have m:=zD i;clear b i j
 go_wp2_with fail
 go_ret
 exact⟨rfl,m.out⟩
theorem jT(a:Nat)(b:Int)(T:TypeId)(x:Value)(w:World):Calls π 199 #[Z (W ⟨a,0,O⟩),V I b,.iface T x] w λe w'=>e=ρ (φ (.func 235) #[] #[Z (W ⟨w.heap.size,0,O⟩),Z (W ⟨w.heap.size+1,0,O⟩),Z (W ⟨w.heap.size+1+1,0,O⟩)])/\w'=(((w.alloc (J #[Z (W ⟨a,0,O⟩)] 149)).alloc (J #[V I b] 3)).alloc (J #[.iface T x] 308)):=by
 go_enter func199,ntmps199
 go_wp2
 go_ret
 exact⟨rfl,rfl⟩
theorem tU(i f ad:Nat)(s:NS)(e:Tp.En)(S:List Tp.En)(v:Value)(ab:Nat)(t:Tp.Tree)(w:World)(z:yp w i f ad s (e::S))(D:Row w s e.l.length v (xZ e.l))(T:Tp.isPl (e.l.drop 1)=true)(b0:∀t∈e.l,zf t)(cv:e.l.length<=100000)(bs:Glob w)(e3:10<=i)(f8:10<=f)(ex:ab<=24)(bR:Tp.bval (e.l.drop 1) ab=W t):
 Calls π 200 #[Z (W ⟨i,0,O⟩),γ #[V I e.no,V I e.col,v],V I (ab:Int)] w λx w'=>(∃an:List Value,x=ρ (.tuple #[γ an.toArray,.nilIface])/\xS w' (New w) t an)/\yp w' i f (ad+3) s S/\Far (λk=>k=i\/k=f) w w':=by
 have d1:2<=e.l.length:=by
  rcases Nat.lt_or_ge e.l.length 2 with ac|ac
  ·rw[List.drop_of_length_le (by omega)]at T
   simp[Tp.isPl]at T
  ·exact ac
 obtain⟨be,b6⟩:∃t,e.l[0]? =W t:=⟨_,zE (by omega)⟩;obtain⟨t1,b4⟩:∃t,e.l[1]? =W t:=⟨_,zE (by omega)⟩;obtain⟨fR,g,o,c,rfl,bD,a5⟩:=iN D;obtain⟨rfl,c6,_,_,a4⟩:=a5 0 be b6;obtain⟨_,_,_,_,M⟩:=a5 1 t1 b4;rw[Nat.zero_mul,Nat.add_zero]at a4;rw[Nat.one_mul]at M;obtain⟨b,A⟩:∃n,e.l.length=n:=⟨_,rfl⟩;have fs:b<=c/\c<=maxLen:=by obtain⟨_,_,_,_,l,ac,_⟩:=D;injection l with _ _ a1;subst a1;rw[<-A];exact ac
 rw[A]at D d1 bD cv;have a9:=D.dropTk A.symm 1 (by omega) rfl;rw[Nat.one_mul]at a9;obtain⟨q,E⟩:∃q,w.heap.size=q:=⟨_,rfl⟩;have p:Far xO w ((w.alloc (J #[V I e.no,V I e.col,Y (W ⟨g,o,O⟩) b c] 220)).alloc (J #[V I 0,U ⟨#[]⟩,V I 0,V I 0,U ⟨#[]⟩,Y O 0 0,Y O 0 0] 78)):=((ξ _ w).alloc _).alloc _;have r:((w.alloc (J #[V I e.no,V I e.col,Y (W ⟨g,o,O⟩) b c] 220)).alloc (J #[V I 0,U ⟨#[]⟩,V I 0,V I 0,U ⟨#[]⟩,Y O 0 0,Y O 0 0] 78)).heap[q]? =W (J #[V I e.no,V I e.col,Y (W ⟨g,o,O⟩) b c] 220 (0,0)):=by rw[<-E];exact aa _ (af w _)
 have bw:((w.alloc (J #[V I e.no,V I e.col,Y (W ⟨g,o,O⟩) b c] 220)).alloc (J #[V I 0,U ⟨#[]⟩,V I 0,V I 0,U ⟨#[]⟩,Y O 0 0,Y O 0 0] 78)).heap[q+1]? =W (J #[V I 0,U ⟨#[]⟩,V I 0,V I 0,U ⟨#[]⟩,Y O 0 0,Y O 0 0] 78 (0,0)):=ah _ _ _ (by simp[E]);have b8:((w.alloc (J #[V I e.no,V I e.col,Y (W ⟨g,o,O⟩) b c] 220)).alloc (J #[V I 0,U ⟨#[]⟩,V I 0,V I 0,U ⟨#[]⟩,Y O 0 0,Y O 0 0] 78)).heap.size=q+2:=by simp[E]
 generalize (be.a:Int)=H at *;generalize (t1.a:Int)=G at *;have bx:(λa=>a.cell? ⟨q,0,O⟩=W (V I e.no)/\a.cell? ⟨q,1,O⟩=W (V I e.col)/\a.cell? ⟨q,2,O⟩=W (Y (W ⟨g,o,O⟩) b c)/\a.cell? ⟨g,o+2,O⟩=W (V I H)/\a.cell? ⟨g,o+3+2,O⟩=W (V I G)) ((w.alloc (J #[V I e.no,V I e.col,Y (W ⟨g,o,O⟩) b c] 220)).alloc (J #[V I 0,U ⟨#[]⟩,V I 0,V I 0,U ⟨#[]⟩,Y O 0 0,Y O 0 0] 78)):=⟨ae r 0,ae r 1,ae r 2,p.at a4 id,p.at M id⟩;have u:=z.far p (λe=>e) (λe=>e) (λ_ _ _ e=>e);have c9:(b:Int)≠1:=by omega
 have ge:((b:Int)==1)=false:=by simpa using c9
 obtain⟨e1,d5,dp,dr⟩:=zx4 p r bw u;have e0:=zD (a9.far p (λ_ _ _ e=>e));obtain⟨F,al,c2,dv,d2⟩:=zx5 bx E b8 A bs;have ao:=zD (θ T (θ b0 bR));have c5:=z.lt;have a6:=z.tgl;rw[E]at a6;have es:=zD a6;have b2:s g:=by
  obtain⟨_,fv,f9,_,l,_,a1,d3⟩:=D;injection l with l _ _;have ba:xZ e.l≠[]:=λd0=>by have N:=bi e.l;rw[d0]at N;simp at N;omega
  have y:=(d3 ba).1;rw[<-l]at y;injection y with y;injection y with y;rw[y];exact a1 ba
 have e6:=zD b2;rw[E]at c5;obtain⟨c1,d4,e2,_⟩:=bv r;have f0:(1:Int)<=(b:Int):=by omega
 have fr:(b:Int)<=(c:Int):=by omega
 have g3:(1:Int) < (b:Int):=by omega
 have f7:(0:Int) < (b:Int):=by omega
 have gr:(1:Int)<=(c:Int):=by omega
 have f5:1 < c:=by omega
 have f1:0 < b:=by omega
 have g1:1 < b:=by omega
 have gd:¬c=1:=by omega
 rw[A];clear a6 b2 p r bw u a9 bx b8 A bs T b0 bR z D a5 b6 b4 a4 M bD
 go_enter func200,ntmps200
 go_upto_region 4 with (fail)
 generalize ((w.alloc (J #[V I e.no,V I e.col,Y (W ⟨g,o,O⟩) b c] 220)).alloc (J #[V I 0,U ⟨#[]⟩,V I 0,V I 0,U ⟨#[]⟩,Y O 0 0,Y O 0 0] 78))=C at *;refine wp_region_noPanic ?_;refine ar (λa=>a.cell? ⟨q,0,O⟩=W (V I e.no)/\a.cell? ⟨q,1,O⟩=W (V I e.col)/\a.cell? ⟨q,2,O⟩=W (Y (W ⟨g,o,O⟩) b c)/\a.cell? ⟨g,o+2,O⟩=W (V I H)/\a.cell? ⟨g,o+3+2,O⟩=W (V I G)) [] (by kernel_rfl) ?_;refine aJ (by kernel_rfl) (λ_ _ _ _ z=>z) (show (λa=>a.cell? ⟨q,0,O⟩=W (V I e.no)/\a.cell? ⟨q,1,O⟩=W (V I e.col)/\a.cell? ⟨q,2,O⟩=W (Y (W ⟨g,o,O⟩) b c)/\a.cell? ⟨g,o+2,O⟩=W (V I H)/\a.cell? ⟨g,o+3+2,O⟩=W (V I G)) C.drew from F.out) 1 [0,1,2,3,4,5,6,7,8,9,10,11,12,13,14,15,16,17,18,19,20,21,22] _ _ (by kernel_rfl) ?_;iterate 23 (refine ax (v:=?_) ?_ ?_;rotate_left;·(intro gc N;(try dsimp only at N);(try obtain⟨gb,f3,e8,gl,fG⟩:=N);go_simp;try with_reducible rfl);(try go_frame))
 refine xT.done ?_;try dsimp only
 refine aq [23] ?_;refine aj rfl (λK cb=>?_) xQ.nil
 go_simp
 obtain⟨ca,b1⟩:∃c3,IntKind.i64.wrap (IntKind.i64.wrap (e.col+G) - H)=c3:=⟨_,rfl⟩;rw[b1];clear b1;have dc:(e.l.drop 1).length=b - 1:=by rw[zZ,dv.out]
 have R:Far xO C C.drew:=(ξ _ C).drew;have ch:=ve i f ad s e ⟨e.no,ca,e.l.drop 1⟩ S (Y (W ⟨g,o+3,O⟩) (b - 1) (c - 1)) C.drew (dr.out.far R (λe=>e) (λe=>e) (λ_ _ _ e=>e)) (by rw[dc];exact e0.out.far R (λ_ _ _ e=>e));refine ch.mono ?_;rintro x m ⟨⟨gk,rfl⟩,u,ck⟩;have j:Far (·=f) C m:=(R.mono (λ_ _ e=>e.elim)).trans ck;have fl:g < q:=by rw[<-al.out];exact c6
 have b5:g≠f:=λl=>u.tge (l ▸ e6.out);have X:(λa=>a.cell? ⟨q,0,O⟩=W (V I e.no)/\a.cell? ⟨q,1,O⟩=W (V I e.col)/\a.cell? ⟨q,2,O⟩=W (Y (W ⟨g,o,O⟩) b c)/\a.cell? ⟨g,o+2,O⟩=W (V I H)/\a.cell? ⟨g,o+3+2,O⟩=W (V I G)) m:=⟨j.at F.out.1 (by show q≠f;omega),j.at F.out.2.1 (by show q≠f;omega),j.at F.out.2.2.1 (by show q≠f;omega),j.at F.out.2.2.2.1 b5,j.at F.out.2.2.2.2 b5⟩;obtain⟨ct,er,P⟩:=zx3 X u j;refine cb.out _ _ (λ_=>ct.out) ?_;clear cb K X ck j u ch R
 (try go_frame)
 refine aP (by kernel_rfl) (NoPanic.normal ?_) _;have cc:=P.out.heap d5.out (by omega);have b9:=P.out.heap dp.out (by omega);obtain⟨c4,eq,c0,_⟩:=bv cc;have av:Far (λk=>k=i\/k=f) w m:=(e1.out.mono (λ_ _ e=>e.elim)).step P.out (λ_ _ e=>.inr e);have cf:=ko i f ad s ⟨e.no,ca,e.l.drop 1⟩ S e.col ab t m er.out ao.out.1 (λt co=>ao.out.2.1 t (List.mem_of_mem_drop co)) (by show (e.l.drop 1).length<=_;omega) (d2.out.far av (λk L e=>by rcases e with rfl|rfl<;>omega)) e3 ex ao.out.2.2;obtain⟨bn,bm,bb⟩:=zx3 cf b9 av;have e9:q+2<=m.heap.size:=by have:=P.out.size;have:=c2.out;omega
 clear cf cc b9 av c1 d4 e2
 go_wp2_with fail
 refine bn.out.mono ?_;rintro x w5 ⟨⟨an,rfl,a2⟩,bk,a3⟩;obtain⟨k,en,e5,cl,da,M,dn,e4,ei,ds,cm,rfl⟩:=a2.form;have d:=a3.heap bm.out (by omega);have b3:=bb.out.step a3 (λk _ e=>.inl e);have fz:=zF d 0 rfl;have gg:=ag d 0;have f6:=zF d 1 rfl;have f4:=ag d 1;have e7:=zF d 2 rfl;have g4:=ag d 2;have f2:=zF d 3 rfl;have fn:=ag d 3;have ga:=zF d 4 rfl;have g2:=ag d 4;have gf:=zF d 5 rfl;have gx:=ag d 5;have ft:=zF d 6 rfl;have g0:=ag d 6;obtain⟨db,df,d6,eg⟩:=zx4 d a2 bk b3;clear d a2 bk b3 a3 bn bm bb c4 eq c0
 go_wp2_with fail
 obtain⟨X,a0⟩:=aG db.out (V I k) (U en) (V I e5) (V I cl) (U da) (Y M dn e4) (Y ei ds cm);exact bodyPost_ret (aO results200 _ _ _ _ X rfl rfl) rfl ⟨⟨_,rfl,xS.base (xS.far a0 (λk (L:m.heap.size<=k) _ e=>by omega) _ _ df.out) (λk (L:m.heap.size<=k)=>by have:=al.out;omega)⟩,d6.out.far a0 (by omega) (by omega) (λk L _ e=>by have:=es.out k L;omega),eg.out.step a0 (λk L e=>by have:=al.out;omega)⟩
end
section
attribute [local go_sem] ak
attribute [local go_sem] Oper.semAt_some
structure WhI(w2:World)(q7:Nat)(outs:List Tp.Nd)(t:Nat)(F:NS)(W:World):Prop where
 le:t<=outs.length
 row:∃(sa:Option Addr) (sn sc:Nat) (cs:List Value) (KG:NS),W.heap[q7]? =some (J #[V I 0,Y sa sn sc] 54 (0,0))/\W.ownsRow w2.heap.size 185 6 (Y sa sn sc) t cs/\xX W KG (outs.take t) cs/\(∀k,KG k->w2.heap.size<=k/\k < W.heap.size/\(Value.slice sa sn sc).ownBlock≠some k)/\(∀k,F k↔k=q7\/(Value.slice sa sn sc).ownBlock=some k\/KG k)
 far:Far (·=q7) w2 W
theorem oy{e:Func}{a:Tmp}(g:e.results=#[.cell a 54])(b:World)(q:Nat)(x c:Value)(d:Array Value)(j:b.heap[q]? =W (J #[x,c] 54 (0,0)))(k:d.getD a undef=Z (W ⟨q,0,O⟩)):
 (results e d).run π b=.ok (γ #[x,c]) b:=by
 have f:d[a]?.getD undef=Z (W ⟨q,0,O⟩):=by simpa using k
 have i:=run_loadVar_row (P:=π) b q 54 54 #[x,c] (0,0) _ j underlying54 rfl (by kernel_rfl);simp[results,g,asAddr,f,i,Sem.run_bind,Result.andThen]
theorem cp(a:List Nat):(Tp.firsts a).length<=a.length:=by
 have e:∀t,t<=a.length->(clF a t).length<=t:=by
  intro t;induction t with
  |zero=>intro _;simp[clF,Tp.firsts]
  |succ t ih=>
   intro f;obtain⟨b,d⟩:∃b,a[t]? =W b:=⟨_,zE f⟩;have:=ih (by omega);by_cases c:b∈clF a t
   ·rw[uL a t b d c];omega
   ·rw[mS a t b d c,zP];show _+1<=_;omega
 have:=e a.length (η _)
 rwa [sG a _ (η _)]at this
theorem iX(g:List Tp.Nd)(z:List Nat)(v:Value)(b9:NS)(f R m:Nat)(w:World)(e9:yc w b9 g v)(eq:w.heap[f]? =W (J #[V I 0,v,Y (W ⟨R,0,O⟩) m m] 178 (0,0)))(f2:PR w R (xP z))(e7:z.length=m)(dr:g.length=m)(e0:∀H∈z,H < m)(a4:∀x∈g,yx x)(hZ:∀x∈g,∀k∈Tp.kidsOf x,k < m)(hq:z[0]? =W 0)(oi:m<=200)(h6:∀k,b9 k->k < w.heap.size/\k≠R):
 Calls π 60 #[Z (W ⟨f,0,O⟩)] w λe w'=>(∃hY,e=ρ (γ #[V I 0,hY])/\yc w' (New w) (Tp.whole g z) hY)/\Below w.heap.size w w':=by
 obtain⟨k3,gr,k0,bs,kg⟩:=info_parts mI;obtain⟨c,bR⟩:∃c,w.heap.size=c:=⟨_,rfl⟩;obtain⟨E,cv⟩:∃o,Tp.whole g z=o:=⟨_,rfl⟩;have hb:∀(t H:Nat),(Tp.firsts z)[t]? =W H->E[t]? =W ((λH=>let x:=g.getD (Tp.idx z H) ⟨0,Tp.Sc.null,[],[]⟩;(⟨x.k,x.x,Tp.keysOf x,(Tp.kidsOf x).map λi=>z.getD i 0⟩:Tp.Nd)) H):=λt H a=>by rw[<-cv];unfold Tp.whole;rw[List.getElem?_map,a];rfl
 have hS:E.length=(Tp.firsts z).length:=by rw[<-cv];simp[Tp.whole]
 rw[cv];have ch:Far xO w ((w.alloc (J #[Z (W ⟨f,0,O⟩)] 112)).alloc (J #[V I 0,Y O 0 0] 54)):=((ξ _ w).alloc _).alloc _;have df:((w.alloc (J #[Z (W ⟨f,0,O⟩)] 112)).alloc (J #[V I 0,Y O 0 0] 54)).heap[c]? =W (J #[Z (W ⟨f,0,O⟩)] 112 (0,0)):=by rw[<-bR];exact aa _ (af w _)
 have hJ:((w.alloc (J #[Z (W ⟨f,0,O⟩)] 112)).alloc (J #[V I 0,Y O 0 0] 54)).heap[c+1]? =W (J #[V I 0,Y O 0 0] 54 (0,0)):=ah _ _ _ (by simp[bR]);have fn:=ch.heap eq id;have en:=f2.far ch id;have mt:0 < m:=by have:=(zM.1 hq).1;omega
 have cm:=zF df 0 rfl;obtain⟨b4,fz,ca,_⟩:=bv fn;have fG:((w.alloc (J #[Z (W ⟨f,0,O⟩)] 112)).alloc (J #[V I 0,Y O 0 0] 54)).cell? ⟨R,0,O⟩=W (V I 0):=en.cell (by unfold xP;rw[List.getElem?_map,hq];rfl);obtain⟨nf,bn,rfl,_⟩:=e9.form;have fs:((w.alloc (J #[Z (W ⟨f,0,O⟩)] 112)).alloc (J #[V I 0,Y O 0 0] 54)).heap.size=c+2:=by simp[bR]
 obtain⟨g3,gc,hu,hT,ht⟩:=zx5 ch df hJ fn en;have nm:(0:Int) < (m:Int):=by omega
 refine callsIn_wide.1 (callsIn_of_wp_marks (n:=5) func60 rfl trivial (wpIn_wide.2 ?_));simp only[ntmps60,List.size_toArray,zO,List.length_nil,Nat.reduceAdd,Nat.reduceSub,Array.replicate_succ,Array.replicate_zero,List.push_toArray,List.append_toArray,List.nil_append,List.cons_append];have bk:=zD bR;clear ch df hJ fn en
 go_upto_region 1 with (fail)
 generalize ((w.alloc (J #[Z (W ⟨f,0,O⟩)] 112)).alloc (J #[V I 0,Y O 0 0] 54))=M at *;clear bR
 go_region_held3 (λb=>b.cell? ⟨c,0,O⟩=W (Z (W ⟨f,0,O⟩))/\b.cell? ⟨f,0,O⟩=W (V I 0)/\b.cell? ⟨f,2,O⟩=W (Y (W ⟨R,0,O⟩) m m)/\b.cell? ⟨R,0,O⟩=W (V I 0)) (first|exact⟨cm,b4,ca,fG⟩|exact⟨((ξ xO M).alloc _).at cm id,((ξ xO M).alloc _).at b4 id,((ξ xO M).alloc _).at ca id,((ξ xO M).alloc _).at fG id⟩) (fail)
 have f0:Far xO M ((M.alloc (J #[V I 0,Y O 0 0] 54)).drew):=((ξ _ M).alloc _).drew;have hj:((M.alloc (J #[V I 0,Y O 0 0] 54)).drew).heap[c+2]? =W (J #[V I 0,Y O 0 0] 54 (0,0)):=cq (ah _ _ _ fs.symm);have c6:((M.alloc (J #[V I 0,Y O 0 0] 54)).drew).cell? ⟨c,0,O⟩=W (Z (W ⟨f,0,O⟩)):=f0.at cm id;have bs:((M.alloc (J #[V I 0,Y O 0 0] 54)).drew).heap.size=c+3:=by
  have:(M.alloc (J #[V I 0,Y O 0 0] 54)).heap.size=c+3:=by simp[fs]
  exact this
 obtain⟨bw,g4⟩:=zx2 f0 hj;clear cm b4 fz ca fG f0 hj;generalize ((M.alloc (J #[V I 0,Y O 0 0] 54)).drew)=ad at *
 go_wp2_with fail
 refine(kQ _ _).mono ?_;rintro e l5 ⟨rfl,rfl⟩;rw[bs];have ba:Far xO ad (ad.alloc (J #[Z (W ⟨f,0,O⟩)] 112)):=(ξ _ ad).alloc _;have d2:Far xO w (ad.alloc (J #[Z (W ⟨f,0,O⟩)] 112)):=(g3.out.trans bw.out).trans ba;have ft:(ad.alloc (J #[Z (W ⟨f,0,O⟩)] 112)).heap.size=c+4:=by simp[bs]
 have c2:=(ht.out.far bw.out id).far ba id;have e1:Row (ad.alloc (J #[Z (W ⟨f,0,O⟩)] 112)) (·=R) m (Y (W ⟨R,0,O⟩) m m) (xP z):=⟨_,R,0,m,rfl,⟨η _,by unfold maxLen;omega⟩,λ_=>rfl,λ_=>⟨rfl,c2.lt,λi gx kk=>by rw[Nat.zero_add];exact c2.cell kk⟩⟩;have d0:=ba.heap (bw.out.heap hT.out id) id;have he:(ad.alloc (J #[Z (W ⟨f,0,O⟩)] 112)).heap[c+3]? =W (J #[Z (W ⟨f,0,O⟩)] 112 (0,0)):=ah _ _ _ bs.symm;have hs:=ba.heap g4.out id;have hB:=mM z _ _ (·=R) (c+3) f m _ d0 he e1 e7 (λH b3=>by have:=e0 H b3;omega) (λk d=>by subst d;rw[ft];have:=c2.lt;omega) (by omega);have g1:WhI (ad.alloc (J #[Z (W ⟨f,0,O⟩)] 112)) (c+2) E 0 (λk=>k=c+2\/(Value.slice O 0 0).ownBlock=W k\/False) (ad.alloc (J #[Z (W ⟨f,0,O⟩)] 112)):=⟨z_ _,⟨O,0,0,[],λ_=>False,hs,World.ownsRow_nil _ _ _ _,by unfold xX;rfl,λ_ a=>a.elim,λ_=>Iff.rfl⟩,ξ _ _⟩;have g7:∀k,b9 k->k < c:=λk d=>bk.out ▸ (h6 k d).1;have nx:R < c:=bk.out ▸ f2.lt;have m3:f < c:=bk.out ▸ lt_of_heap eq;obtain⟨i1,lr,X⟩:=zx3 hB g1 ft;have it:=zD (e9.far d2 (λ_ _ _ e=>e));obtain⟨ha,ls,kn,kf⟩:=zx4 g7 hb d0 e1;have h7:=zD (ba.heap (bw.out.heap gc.out id) id);have kl:=zD (ba.heap (bw.out.heap hu.out id) id);obtain⟨da,k2,i7,n1⟩:=zx4 d2 a4 hZ e0;clear hB g1 ft e9 g7 hb d0 e1 d2 a4 hZ e0 c2 he hs ba g3 bw gc hu hT ht g4 eq f2 c6;generalize (ad.alloc (J #[Z (W ⟨f,0,O⟩)] 112))=b8 at *;clear bs fs
 go_wp2_with fail
 refine wpIn_wide.1 (aC (n:=5) (gf:=124) (lb:=#[Z (W ⟨c+3,0,O⟩)]) rfl (λargs wx=>sm args wx)
  i1.out (λk e=>e.elim) (λk e=>by have:=X.out;rcases e with rfl|rfl|e;omega;omega;(subst e;omega)) (λt v h3 b a=>by obtain⟨⟨x,_,rfl⟩,_⟩:=a;rfl)
  (WhI b8 (c+2) E) (λ_ _ _=>False) (λk=>k=c+2\/(Value.slice O 0 0).ownBlock=W k\/False) (λk a=>?hF0) lr.out ?hI (λ_ _ _ _ a _=>a) (λ_ _ _ _=>trivial) (λ_ _ _ _=>trivial) ?round ?done (λ_ _ _ a=>a.elim))
 case hF0=>
  have:=X.out;have d:k=c+2:=by
   rcases a with a|a|a
   ·exact a
   ·simp[Value.ownBlock]at a
   ·exact a.elim
  exact⟨λe=>e,λe=>by rcases e with e|e|e<;>omega,by omega,by omega,λ_=>by omega⟩
 case hI=>
  rintro t ct b lc ⟨d6,⟨s,F,r,be,a3,N,C,S,ac,L⟩,al⟩ a4;refine⟨d6,⟨s,F,r,be,a3,a4.heap N (λe=>e.1 ((L _).2 (.inl rfl))),am C a4 (λk e a=>a.1 ((L k).2 (.inr (.inl e)))),xX.far a4 (λk d _ e=>e.1 ((L k).2 (.inr (.inr d)))) _ _ S,λk d=>⟨(ac k d).1,zK (ac k d).2.1 a4.size,(ac k d).2.2⟩,L⟩,al.step a4 (λi gr e=>?_)⟩;rcases e.2 with a|a
  ·exact a.elim
  ·omega
 case round=>
  rintro t ct h3 gx b K ne kb ⟨d6,⟨s,F,r,be,a3,N,C,S,ac,L⟩,al⟩ ⟨⟨H,b3,rfl⟩,rfl⟩ ks ab y;have hp:=X.out;rw[hp]at kb ab
  gi_wp2
  refine y _ _ (ξ _ _) ?_;intro T a5 _ _;rw[hp]at a5;obtain⟨i,cl⟩:∃i,Tp.idx z H=i:=⟨_,rfl⟩;have hH:H∈z:=(Tp.bH _ _).1 (zL b3);have kd:i < m:=by rw[<-cl,<-e7];exact Tp.kN _ _ hH
  obtain⟨x,b2⟩:∃x,g[i]? =W x:=⟨_,zE (by rw[dr];exact kd)⟩;have ck:=ls.out t H b3;rw[cl]at ck;simp only[zY (l:=g),b2,Option.getD_some]at ck;have f3:=k2.out x (zL b2);have gk:=i7.out x (zL b2);have u:Far (λk=>k=c+2\/c+4<=k) b8 T:=(al.mono (λk _ e=>.inl e)).step a5 (λk d e=>.inr (by omega));have d5:=u.heap h7.out (by omega);have e6:=u.heap kn.out (by omega);have c9:=it.out.far u (λk d _ e=>by have:=ha.out k d;omega);have hk:=kf.out.far u (λk d _ e=>by subst d;omega);obtain⟨kv,hE,cf⟩:=c9.at b2;rw[dr]at cf;have hC:=bS 0 x _ kv hE m i b9 T cf f3;rw[cl];have i6:=zF d5 0 rfl;obtain⟨b4,fz,ca,_⟩:=bv e6;have l0:=u.size;have g6:=a5.heap N (by omega);have hX:=am C a5 (λk e a=>by have:=(ab k ((L k).2 (.inr (.inl e)))).2.1;omega);have hK:=xX.far a5 (λk d _ e=>by have:=(ab k ((L k).2 (.inr (.inr d)))).2.1;omega) _ _ S;have hr:=al.step a5 (λk d e=>by omega);have nv:=a5.size;obtain⟨f6,ho,k5,f4,b1,i9⟩:=zx6 g6 hX hK ac L hr;obtain⟨eg,fr,dc,h9,hn,e2⟩:=zx6 d5 e6 cf hk hC ck;obtain⟨i8,hG,mb⟩:=zx3 gk f3 ab;clear N C S ac L al g6 hX hK hr d5 e6 cf hk hC ck gk f3 ab y ks c9 u b3 b2 hH a5 cl
  gi_wp2
  refine⟨trivial,callsIn_wide.2 (hn.out.mono ?_)⟩;rintro e fv ⟨⟨oe,rfl,es⟩,bx⟩;obtain⟨er,fl,rfl,_⟩:=es.form;have e4:=(bx.block _ (lt_of_heap eg.out)).trans eg.out;have e8:=(bx.block _ (lt_of_heap fr.out)).trans fr.out;have c4:=zF e4 0 rfl;obtain⟨i5,kc,h8,_⟩:=bv e8;have f8:=bQ 0 x _ kv hE m i b9 fv (dc.out.below bx) hG.out;have g8:=zD f8;have h0:=zD (es.mono (G':=λk=>T.heap.size<=k/\k < fv.heap.size) (λk N C=>⟨N,C⟩));obtain⟨g0,i3,kr⟩:=zx3 bx e4 e8;have m9:=bx.size;clear f8 es bx e4 e8 hn i6 b4 fz ca
  gi_wp2
  refine⟨trivial,callsIn_wide.2 (g8.out.mono ?_)⟩;rintro e P ⟨⟨m4,rfl,a9⟩,cc⟩;obtain⟨nb,l7,rfl,_⟩:=a9.form;have an:Far xO T P:=(Far.of_below g0.out xO).below cc;have no:=cc.size;have hR:=h0.out.below cc;have ge:=a9.mono (G':=λk=>fv.heap.size<=k/\k < P.heap.size) (λk N C=>⟨N,C⟩);have l3:(Tp.kidsOf x).length<=100000:=Nat.le_trans (bI x) hG.out.2.2;have h2:=dc.out.far an (λ_ _ _ e=>e);have hv:=an.heap eg.out id;have e5:=an.heap fr.out id;have hL:=h9.out.far an (λ_ _ _ e=>e);have dn:=an.heap f6.out id;obtain⟨j,o,n3,k4,nd,f5,hh,hi,d1,_⟩:=h2.cells;injection k4 with e91 _ e93;subst e91 e93;obtain⟨SX,hc⟩:∃ky,xR x.x.s=U ky:=⟨_,rfl⟩;rw[hc]at d1;obtain⟨_,dv,_⟩:=bO dn;obtain⟨_,fR,_⟩:=bv e5;rw[dr]at fR;have hd:=zF hv 0 rfl;have ga:(λb=>b.cell? ⟨c,0,O⟩=W (Z (W ⟨f,0,O⟩))/\b.cell? ⟨c+2,1,O⟩=W (Y s F r)/\b.cell? ⟨f,1,O⟩=W (Y (W ⟨j,o,O⟩) m bn)/\b.cell? ⟨j,o+i * 6,O⟩=W (V I x.k)/\b.cell? ⟨j,o+i * 6+1,O⟩=W (V I x.x.k)/\b.cell? ⟨j,o+i * 6+2,O⟩=W (V I x.x.n)/\b.cell? ⟨j,o+i * 6+3,O⟩=W (U SX)) P:=⟨hd,dv,fR,f5,hh,hi,d1⟩;have l9:(i:Int) < (m:Int):=by omega
  have m1:(0:Int)<=(i:Int):=by omega
  have a9:Far xO P P.drew:=(ξ _ P).drew;have hN:=k9 (Tp.kidsOf x) z _ _ _ _ _ f m P.drew (ge.far a9 (λ_ _ _ e=>e)) (a9.heap e5 id) (hL.far a9 (λ_ _ _ e=>e)) e7 i8.out (by omega);have hA:∀k,(Value.slice s F r).ownBlock=W k->c+4<=k/\k < T.heap.size:=λk e=>by have:=ho.out.lt k e;have:=X.out;omega
  have l8:=ha.out j (by obtain⟨⟨l2,np,n8,bb,_,a,_⟩,_⟩:=dc.out;injection bb with bb _ _;injection bb with bb;injection bb with bb;exact bb ▸ a);have i0:=zD (am ho.out an (λ_ _ e=>e));have h1:=zD (xX.far an (λ_ _ _ e=>e) _ _ k5.out);obtain⟨hf,gl,j9,lt⟩:=zx4 dn an hR hN;have a2:=zD (θ hc ga);have av:=zD hA;clear an hR ge h2 hv e5 hL dn dv fR hd f5 hh hi d1 ga a9 hN hA c4 i5 kc h8 g0 i3 kr h0 g8 cc
  gi_wp2_with (fail)
  refine aN (λb=>b.cell? ⟨c,0,O⟩=W (Z (W ⟨f,0,O⟩))/\b.cell? ⟨c+2,1,O⟩=W (Y s F r)/\b.cell? ⟨f,1,O⟩=W (Y (W ⟨j,o,O⟩) m bn)/\b.cell? ⟨j,o+i * 6,O⟩=W (V I x.k)/\b.cell? ⟨j,o+i * 6+1,O⟩=W (V I x.x.k)/\b.cell? ⟨j,o+i * 6+2,O⟩=W (V I x.x.n)/\b.cell? ⟨j,o+i * 6+3,O⟩=W (U SX)) [28] (by kernel_rfl) (by kernel_rfl) (λa=>by obtain⟨_,_,a⟩:=a;exact a) ?_;refine ay 10 (by kernel_rfl) (λ_ _ _ _ a=>a) (show (λb=>b.cell? ⟨c,0,O⟩=W (Z (W ⟨f,0,O⟩))/\b.cell? ⟨c+2,1,O⟩=W (Y s F r)/\b.cell? ⟨f,1,O⟩=W (Y (W ⟨j,o,O⟩) m bn)/\b.cell? ⟨j,o+i * 6,O⟩=W (V I x.k)/\b.cell? ⟨j,o+i * 6+1,O⟩=W (V I x.x.k)/\b.cell? ⟨j,o+i * 6+2,O⟩=W (V I x.x.n)/\b.cell? ⟨j,o+i * 6+3,O⟩=W (U SX)) P.drew from a2.out.2) 6 [0,1,2,3,4,5,6,7,8,9,10,11,12,13,14,15,16,17,18,19,20,21,22] _ _ (by kernel_rfl) ?_;iterate 23 (refine ax (v:=?_) ?_ ?_;rotate_left;·(intro gb a6;(try dsimp only at a6);(try obtain⟨hV,f9,hP,g2,hQ,g5,gd⟩:=a6);go_simp;try with_reducible rfl);(try go_frame))
  refine xT.done ?_;try dsimp only
  refine aq [23] ?_;refine aj rfl (λK y=>?_) xQ.nil
  go_simp
  refine lt.out.mono ?_;rintro e G ⟨⟨ns,rfl,ds⟩,hm⟩;obtain⟨ex,dp,rfl,_⟩:=ds.form;have A:Far xO P G:=((ξ _ P).drew).below hm;have a0:(λb=>b.cell? ⟨c,0,O⟩=W (Z (W ⟨f,0,O⟩))/\b.cell? ⟨c+2,1,O⟩=W (Y s F r)/\b.cell? ⟨f,1,O⟩=W (Y (W ⟨j,o,O⟩) m bn)/\b.cell? ⟨j,o+i * 6,O⟩=W (V I x.k)/\b.cell? ⟨j,o+i * 6+1,O⟩=W (V I x.x.k)/\b.cell? ⟨j,o+i * 6+2,O⟩=W (V I x.x.n)/\b.cell? ⟨j,o+i * 6+3,O⟩=W (U SX)) G:=⟨A.at a2.out.2.1 (id),A.at a2.out.2.2.1 (id),A.at a2.out.2.2.2.1 (id),A.at a2.out.2.2.2.2.1 (id),A.at a2.out.2.2.2.2.2.1 (id),A.at a2.out.2.2.2.2.2.2.1 (id),A.at a2.out.2.2.2.2.2.2.2 (id)⟩;have hU:=zD a0;refine y.out _ _ (λ_=>hU.out) ?_;clear y K
  (try go_frame)
  refine ay 10 (by kernel_rfl) (λ_ _ _ _ a=>a) hU.out 4 [24] _ _ (by kernel_rfl) ?_;iterate 1 (refine ax (v:=?_) ?_ ?_;rotate_left;·(intro gb a6;(try dsimp only at a6);(try obtain⟨hV,f9,hP,g2,hQ,g5,gd⟩:=a6);go_simp;try with_reducible rfl);(try go_frame))
  refine xT.done ?_;try dsimp only
  refine aq [25] ?_;refine aj rfl (λK y=>?_) xQ.nil
  go_simp
  obtain⟨bD,c5⟩:∃b,G.alloc (J #[V I x.k,V I x.x.k,V I x.x.n,U SX,Y er (Tp.keysOf x).length fl,Y ex (Tp.kidsOf x).length dp] 185)=b:=⟨_,rfl⟩;have u:Far xO G bD:=by rw[<-c5];exact(ξ _ G).alloc _
  have hD:bD.heap[G.heap.size]? =W (J #[V I x.k,V I x.x.k,V I x.x.n,U SX,Y er (Tp.keysOf x).length fl,Y ex (Tp.kidsOf x).length dp] 185 (0,0)):=by rw[<-c5];exact af G _
  rw[c5];clear c5;have ao:(λb=>b.cell? ⟨c,0,O⟩=W (Z (W ⟨f,0,O⟩))/\b.cell? ⟨c+2,1,O⟩=W (Y s F r)/\b.cell? ⟨f,1,O⟩=W (Y (W ⟨j,o,O⟩) m bn)/\b.cell? ⟨j,o+i * 6,O⟩=W (V I x.k)/\b.cell? ⟨j,o+i * 6+1,O⟩=W (V I x.x.k)/\b.cell? ⟨j,o+i * 6+2,O⟩=W (V I x.x.n)/\b.cell? ⟨j,o+i * 6+3,O⟩=W (U SX)) bD:=⟨u.at a0.1 (id),u.at a0.2.1 (id),u.at a0.2.2.1 (id),u.at a0.2.2.2.1 (id),u.at a0.2.2.2.2.1 (id),u.at a0.2.2.2.2.2.1 (id),u.at a0.2.2.2.2.2.2 (id)⟩;have js:=zD ao;refine y.out _ _ (λ_=>js.out) ?_;clear y K a0
  (try go_frame)
  have m2:=(A.trans u).size;have d3:=am i0.out A (λ_ _ e=>e);have hy:=am d3 u (λ_ _ e=>e);have nn:t<=200:=by have N:=(zM.1 e2.out).1;have C:=cp z;omega
  refine aq [26] ?_;refine aj rfl (λK y=>?_) xQ.nil;refine wp_append_lies bD (.tmp 45) (.tmp 69) 52 rfl b8.heap.size 185 k3 _ 6 88 underlying52 gr k0 bs kg rfl (by decide) (Y s F r) t _ rfl hy ⟨G.heap.size,0,O⟩ 1 1 [V I x.k,V I x.x.k,V I x.x.n,U SX,Y er (Tp.keysOf x).length fl,Y ex (Tp.kidsOf x).length dp] ?_ rfl ?_ ?_ (by omega) ?_ ?_ ?_ _ rfl ?_
  ·rfl
  ·intro h5 gx kt
   rw[gK];exact(ae hD h5).trans (by simpa using kt)
  ·simp[Value.oneCell']
  ·unfold maxLen;omega
  ·omega
  ·have:=X.out;omega
  intro gg cap bm hg d4 hW l4;have ei:Far (λk=>(Value.slice s F r).ownBlock=W k) G bm:=(u.mono (λ_ _ e=>e.elim)).grown d4 (λk e _=>e);have a1:Far (λk=>(Value.slice s F r).ownBlock=W k) bD bm:=(ξ _ bD).grown d4 (λk e _=>e);have e3:(λb=>b.cell? ⟨c,0,O⟩=W (Z (W ⟨f,0,O⟩))/\b.cell? ⟨c+2,1,O⟩=W (Y s F r)/\b.cell? ⟨f,1,O⟩=W (Y (W ⟨j,o,O⟩) m bn)/\b.cell? ⟨j,o+i * 6,O⟩=W (V I x.k)/\b.cell? ⟨j,o+i * 6+1,O⟩=W (V I x.x.k)/\b.cell? ⟨j,o+i * 6+2,O⟩=W (V I x.x.n)/\b.cell? ⟨j,o+i * 6+3,O⟩=W (U SX)) bm:=⟨a1.at ao.1 (λe=>by have a:=av.out _ e;dsimp only at a;omega),a1.at ao.2.1 (λe=>by have a:=av.out _ e;dsimp only at a;omega),a1.at ao.2.2.1 (λe=>by have a:=av.out _ e;dsimp only at a;omega),a1.at ao.2.2.2.1 (λe=>by have a:=av.out _ e;dsimp only at a;omega),a1.at ao.2.2.2.2.1 (λe=>by have a:=av.out _ e;dsimp only at a;omega),a1.at ao.2.2.2.2.2.1 (λe=>by have a:=av.out _ e;dsimp only at a;omega),a1.at ao.2.2.2.2.2.2 (λe=>by have a:=av.out _ e;dsimp only at a;omega)⟩;have hM:=zD e3;have l6:=A.size;have c3:(Value.slice s F r).ownBlock=W gg\/G.heap.size<=gg:=by
   rcases hW with a|a
   ·exact .inl a
   ·right;have:=u.size;omega
  have f7:TyI b8 (c+2) E t s F r G:=⟨A.heap hf.out id,⟨be,a3,d3,xX.far A (λ_ _ _ e=>e) _ _ h1.out,λk d=>by have:=f4.out k d;exact⟨this.1,by omega,this.2.2⟩⟩,(i9.out.step (gl.out.trans A) (λ_ _ e=>e.elim))⟩;obtain⟨c0,b0,co,b6,cb⟩:=sP (x:=⟨x.k,x.x,Tp.keysOf x,(Tp.kidsOf x).map λi=>z.getD i 0⟩) f7 (by have:=X.out;omega) e2.out (λk=>T.heap.size<=k/\k < G.heap.size) (λk d=>⟨by have:=X.out;omega,d.2,λe=>by have:=av.out k e;omega⟩) ((j9.out.far A (λ_ _ _ e=>e)).mono (λk d _=>⟨d.1,by omega⟩)) (by rw[List.length_map];exact ds.mono (λk d C=>⟨by have S:P.heap.size<=k:=d;omega,C⟩)) ei c3 be a3 (xX.far A (λ_ _ _ e=>e) _ _ h1.out) (λk d=>by have:=f4.out k d;exact⟨this.1,by omega,this.2.2⟩) (by rw[a2.out.1];exact hg);have hw:Far ct T bm:=((gl.out.trans A).mono (λ_ _ e=>e.elim)).step ei (λk _ e=>(b1.out k).2 (.inr (.inl e)));have b5:Far ct T (bm.setCell ⟨c+2,1,O⟩ (Y (W ⟨gg,0,O⟩) (t+1) cap)):=hw.step (Far.setCell (D:=(·=c+2)) (ξ _ _) (p:=⟨c+2,1,O⟩) (λ_=>rfl) _) (λk _ e=>(b1.out k).2 (.inl e));have n4:bm.frozen? ⟨c+2,1,O⟩=false:=ag (a1.heap (u.heap (A.heap hf.out id) id) (λe=>by have a:=av.out _ e;omega)) 1;have md:=e3.2.1;have la:=zD (θ c0 (θ b0 (θ co (θ b6 (θ cb (θ b5 c3))))));refine y.out _ _ (λ_=>hM.out) ?_;clear y K c0 b0 co b6 cb hw b5 f7 e3 hg d4 hW ei a1 ao hD u hy d3 ds hm A
  (try go_frame)
  refine ay 10 (by kernel_rfl) (λ_ _ _ _ a=>a) hM.out 1 [27] _ _ (by kernel_rfl) ?_;iterate 1 (refine ax (v:=?_) ?_ ?_;rotate_left;·(intro gb a6;(try dsimp only at a6);(try obtain⟨hV,f9,hP,g2,hQ,g5,gd⟩:=a6);go_simp;try with_reducible rfl);(try go_frame))
  refine xT.done ?_;try dsimp only
  refine aq [28] ?_;refine aj rfl (λK y=>?_) xQ.nil
  go_simp
  refine y.out _ _ (λa=>absurd (by simp) a) ?_;clear y K
  (try go_frame)
  refine aP (by kernel_rfl) ?_ _;obtain⟨c0,b0,co,b6,cb,b5,c3⟩:=la.out;have ih:t < E.length:=(zM.1 e2.out).1;refine⟨λk=>k=c+2\/(Value.slice (W ⟨gg,0,O⟩) (t+1) cap).ownBlock=W k\/a3 k\/(T.heap.size<=k/\k < G.heap.size),⟨ih,⟨_,_,_,_,λk=>a3 k\/(T.heap.size<=k/\k < G.heap.size),c0,b0,co,b6,λ_=>Iff.rfl⟩,cb⟩,b5,λk a=>?_⟩;have n2:=b5.size;rcases a with a|a|a
  ·subst a
   exact⟨.inl ((b1.out _).2 (.inl rfl)),λ_=>by have:=lt_of_heap f6.out;omega⟩
  ·refine⟨?_,λ_=>(b0.lt k a).2⟩
   simp[Value.ownBlock]at a
   subst a;rcases c3 with a|a
   ·exact .inl ((b1.out gg).2 (.inr (.inl a)))
   ·right;right;omega
  ·refine⟨?_,λ_=>(b6 k a).2.1⟩
   rcases a with a|a
   ·exact .inl ((b1.out k).2 (.inr (.inr a)))
   ·right;right;omega
 case done=>
  rintro ct b ⟨d6,⟨s,F,r,be,a3,N,C,S,ac,L⟩,al⟩ _ y ab;rw[X.out]at y ab ⊢;have hz:E.length=(Tp.firsts z).length:=hS;rw[<-hz]at C S;rw[List.take_length]at S;have k1:=cz C;subst k1;have ka:∀k,(Value.slice s E.length r).ownBlock=W k->k≠c+4:=λk e=>ab k ((L k).2 (.inr (.inl e)));have i4:∀k,a3 k->k≠c+4:=λk e=>ab k ((L k).2 (.inr (.inr e)));have f1:=al.heap kl.out (by omega);obtain⟨mp,dv,_⟩:=bO N;obtain⟨l1,n0,w0,n5⟩:=bO f1;obtain⟨c6,c1⟩:=wZ f1 (V I 0) (Y s E.length r);have c9:yc b (λk=>b8.heap.size<=k) E (Y s E.length r):=⟨be,(az C),xX.mono (λk d _=>(ac k d).1) _ _ S⟩;have hl:yc b (λk=>c+4 < k) E (Y s E.length r):=⟨be,(cx C).mono (λk d _=>by have le:=C.lt k d;have i2:=ka k d;have:=X.out;omega),xX.mono (λk d _=>by have le:=(ac k d).1;have i2:=i4 k d;have:=X.out;omega) _ _ S⟩;have hx:Below w.heap.size w ((b.setCell ⟨c+1,0,O⟩ (V I 0)).setCell ⟨c+1,1,O⟩ (Y s E.length r)):=(((da.out.to_below (η _) (λ_ _ e=>e)).trans (al.to_below da.out.size (λk d e=>by have:=bk.out;omega))).trans (c1.to_below (by have:=da.out.size;have:=al.size;omega) (λk d e=>by have:=bk.out;omega)));have k6:=zD (hl.far c1 (λk d _ e=>by omega));obtain⟨hF,ln⟩:=zx2 hx c6;have h4:=zD (c1.heap y (by omega));clear hz hS cv c9 hl hx c6 c1 f1 N C S ac L al y ab
  go_wp2_with fail
  refine au (q:=c+4) rfl h4.out ?_;intro lc db;refine⟨γ #[V I 0,Y s E.length r],oy results60 _ (c+1) _ _ _ (db.heap ln.out (by omega)) rfl,⟨_,rfl,(k6.out.far db (λk d _ e=>by omega)).mono (λk d _=>by have:=bk.out;show w.heap.size<=k;omega)⟩,hF.out.trans (db.to_below (by have:=hF.out.size;exact this) (λk d e=>by have:=bk.out;omega))⟩
end
section
attribute [local go_sem] ak
attribute [local go_sem] Oper.semAt_some
theorem sI(d:Int):∀(g:List Tp.En) (a:List Tp.Tree),Tp.bseq d g=W a->a.length=g.length/\∀(t:Nat) (e:Tp.En),g[t]? =W e->e.col=d/\Tp.isDash e.l=true/\Tp.isPl (e.l.drop 1)=true/\∃x,a[t]? =W x/\Tp.bval (e.l.drop 1) 2=W x
 | [],a,h=>by
  unfold Tp.bseq at h;cases h
  exact⟨rfl,λt e b=>by simp at b⟩
 |e::r,a,h=>by
  unfold Tp.bseq at h;split at h
  ·rename_i hc
   cases c:Tp.bval (e.l.drop 1) 2 with
   |none=>rw[c]at h;cases h
   |some x=>
    cases f:Tp.bseq d r with
    |none=>rw[c,f]at h;cases h
    |some xs=>
     rw[c,f]at h;cases h
     obtain⟨i,j⟩:=sI d r xs f;refine⟨by simp[i],λt k b=>?_⟩;cases t with
     |zero=>simp at b;subst b;exact⟨hc.1,hc.2.1,hc.2.2,x,rfl,c⟩
     |succ t=>exact j t k (by simpa using b)
  ·cases h
structure SqI(w:World)(b r ge oe deep:Nat)(TG:NS)(es:List Tp.En)(vs:List Tp.Tree)(t:Nat)(F:NS)(W:World):Prop where
 lt:∀k,F k->k < W.heap.size
 fr:∀k,F k->k=r\/k=ge\/b<=k
 fR:F r
 fG:F ge
 f4:F (b+4)
 nb:¬F b/\¬F (b+1)/\¬F (b+2)/\¬F (b+3)
 rd:yp W r ge (oe+3 * t) TG (es.drop t)
 row:∃dv cs KF,W.heap[b+4]? =some (J #[V I 1,U ⟨#[]⟩,V I 0,V I 0,U ⟨#[]⟩,Y O 0 0,dv] 78 (0,0))/\W.ownsRow (b+8) 78 7 dv t cs/\(∀k,dv.ownBlock=some k->F k)/\xU W KF (vs.take t) cs/\∀k,KF k->F k/\b+8<=k/\dv.ownBlock≠some k
 far:Far (λk=>k=r\/k=ge) w W
 bx:W.heap[b]? =some (J #[Z (some ⟨r,0,O⟩)] 149 (0,0))/\W.heap[b+1]? =some (J #[V I (deep:Int)] 3 (0,0))/\W.heap[b+2]? =some (J #[V I 0,U ⟨#[]⟩,V I 0,V I 0,U ⟨#[]⟩,Y O 0 0,Y O 0 0] 78 (0,0))/\W.heap[b+3]? =some (J #[.nilIface] 41 (0,0))
theorem SqI.step{w:World}{d j x p u:Nat}{g:NS}{r:List Tp.En}{m:List Tp.Tree}{t:Nat}{i D:NS}{l y:World}(S:SqI w d j x p u g r m t i l)(X:w.heap.size=d)(P:∀k,g k->k < d)(b:Far D l y)(a:∀k,D k->¬i k/\d+8<=k):SqI w d j x p u g r m t i y:=by
 obtain⟨H,z,s,n,o,T,R,⟨A,G,C,L,N,v,E,q⟩,F,f⟩:=S;exact⟨λk c=>zK (H k c) b.size,z,s,n,o,T,R.far b (λe=>(a _ e).1 s) (λe=>(a _ e).1 n) (λk c _ e=>by have:=P k c;have:=(a _ e).2;omega),⟨A,G,C,b.heap L (λe=>(a _ e).1 o),am N b (λk e M=>(a _ M).1 (v k e)),v,xU.far b (λk c _ e=>(a _ e).1 (q k c).1) _ _ E,q⟩,F.step b (λk c e=>by have:=(a _ e).2;omega),⟨b.heap f.1 (λe=>by have:=(a _ e).2;omega),b.heap f.2.1 (λe=>by have:=(a _ e).2;omega),b.heap f.2.2.1 (λe=>by have:=(a _ e).2;omega),b.heap f.2.2.2 (λe=>by have:=(a _ e).2;omega)⟩⟩
theorem nu{w:World}{q p:Nat}{E x u C v t z r:Value}{T m:TypeId}(F:w.heap[q]? =W (J #[E,x,u,C,v,t,z] T (0,0)))(y:w.heap[p]? =W (J #[r] m (0,0)))(n:p≠q)(f a g d i b c j:Value):
 ((((((((w.setCell ⟨q,0,O⟩ f).setCell ⟨q,1,O⟩ a).setCell ⟨q,2,O⟩ g).setCell ⟨q,3,O⟩ d).setCell ⟨q,4,O⟩ i).setCell ⟨q,5,O⟩ b).setCell ⟨q,6,O⟩ c).cell? ⟨p,0,O⟩=W r/\(((((((w.setCell ⟨q,0,O⟩ f).setCell ⟨q,1,O⟩ a).setCell ⟨q,2,O⟩ g).setCell ⟨q,3,O⟩ d).setCell ⟨q,4,O⟩ i).setCell ⟨q,5,O⟩ b).setCell ⟨q,6,O⟩ c).frozen? ⟨p,0,O⟩=false)/\((((((((w.setCell ⟨q,0,O⟩ f).setCell ⟨q,1,O⟩ a).setCell ⟨q,2,O⟩ g).setCell ⟨q,3,O⟩ d).setCell ⟨q,4,O⟩ i).setCell ⟨q,5,O⟩ b).setCell ⟨q,6,O⟩ c).setCell ⟨p,0,O⟩ j).heap[q]? =W (J #[f,a,g,d,i,b,c] T (0,0))/\((((((((w.setCell ⟨q,0,O⟩ f).setCell ⟨q,1,O⟩ a).setCell ⟨q,2,O⟩ g).setCell ⟨q,3,O⟩ d).setCell ⟨q,4,O⟩ i).setCell ⟨q,5,O⟩ b).setCell ⟨q,6,O⟩ c).setCell ⟨p,0,O⟩ j).heap[p]? =W (J #[j] m (0,0))/\Far (λk=>k=q\/k=p) w ((((((((w.setCell ⟨q,0,O⟩ f).setCell ⟨q,1,O⟩ a).setCell ⟨q,2,O⟩ g).setCell ⟨q,3,O⟩ d).setCell ⟨q,4,O⟩ i).setCell ⟨q,5,O⟩ b).setCell ⟨q,6,O⟩ c).setCell ⟨p,0,O⟩ j):=by
 obtain⟨A,o⟩:=aG F f a g d i b c;have l:=o.heap y n;have s:Far (·=p) (((((((w.setCell ⟨q,0,O⟩ f).setCell ⟨q,1,O⟩ a).setCell ⟨q,2,O⟩ g).setCell ⟨q,3,O⟩ d).setCell ⟨q,4,O⟩ i).setCell ⟨q,5,O⟩ b).setCell ⟨q,6,O⟩ c) ((((((((w.setCell ⟨q,0,O⟩ f).setCell ⟨q,1,O⟩ a).setCell ⟨q,2,O⟩ g).setCell ⟨q,3,O⟩ d).setCell ⟨q,4,O⟩ i).setCell ⟨q,5,O⟩ b).setCell ⟨q,6,O⟩ c).setCell ⟨p,0,O⟩ j):=Far.setCell (D:=(·=p)) (ξ _ _) (p:=⟨p,0,O⟩) (λ_=>rfl) _;exact⟨⟨ae l 0,ag l 0⟩,s.heap A (λe=>n e.symm),ai l 0 j,(o.mono (λ_ _ e=>.inl e)).trans (s.mono (λ_ _ e=>.inr e))⟩
theorem dG{f:Func}{a e:Tmp}(l:f.results=#[.cell a 78,.cell e 41])(b:World)(q p:Nat)(x:Array Value)(d:Value)(c:Array Value)(s:b.heap[q]? =W (J x 78 (0,0)))(r:x.size=7)(j:b.heap[p]? =W (J #[d] 41 (0,0)))(g:c.getD a undef=Z (W ⟨q,0,O⟩))(n:c.getD e undef=Z (W ⟨p,0,O⟩)):
 (results f c).run π b=.ok (.tuple #[γ x,d]) b:=by
 have k:c[a]?.getD undef=Z (W ⟨q,0,O⟩):=by simpa using g
 have o:c[e]?.getD undef=Z (W ⟨p,0,O⟩):=by simpa using n
 have m:=run_loadVar_row (P:=π) b q 78 78 x (0,0) _ s underlying78 rfl (by rw[r];exact gS);have t:=zF j 0 rfl;have i:Sem.run π (loadVar 41 ⟨p,0,O⟩) b=.ok d b:=by simp[go_sem,t]
 simp[results,l,asAddr,k,o,m,i,Sem.run_bind,Result.andThen]
theorem kW(args:Array Value)(w:World):(callFunc 235 args).run π w=.ok (.enter 235 args) w:=by kernel_rfl
theorem uX(m A bx an:Nat)(f2:an=1)(bD:NS)(av:List Tp.En)(bn:List Tp.Tree)(bs:Int)(w:World)(b:yp w m A bx bD av)(f7:∀e∈av,(∀t∈e.l,zf t)/\e.l.length<=100000)(hK:Glob w)(m2:10<=m)(mb:10<=A)(hR:Tp.bseq bs av=W bn)(k6:av.length<=100000):
 Calls π 153 #[Z (W ⟨m,0,O⟩),V I bs,V I (an:Int)] w λx w'=>(∃e7:List Value,x=ρ (.tuple #[γ e7.toArray,.nilIface])/\xS w' (New w) ⟨1,[],Tp.Sc.null,[],bn⟩ e7)/\yp w' m A (bx+3 * av.length) bD []/\Far (λk=>k=m\/k=A) w w':=by
 obtain⟨md,er,l7,kn,la⟩:=info_parts nL;obtain⟨c,T⟩:∃c,w.heap.size=c:=⟨_,rfl⟩;obtain⟨c1,fr⟩:=sI bs av bn hR;obtain⟨a9,en⟩:∃a9,av.length=a9:=⟨_,rfl⟩;rw[en]at c1 k6 ⊢;have ky:=b.lt;have es:=b.tgl;rw[T]at ky es;obtain⟨a1,a0⟩:∃x,((((((((w.alloc (J #[Z (W ⟨m,0,O⟩)] 149)).alloc (J #[V I (an:Int)] 3)).alloc (J #[V I 0,U ⟨#[]⟩,V I 0,V I 0,U ⟨#[]⟩,Y O 0 0,Y O 0 0] 78)).alloc (J #[.nilIface] 41)).alloc (J #[V I 1,U ⟨#[]⟩,V I 0,V I 0,U ⟨#[]⟩,Y O 0 0,Y O 0 0] 78)).alloc (J #[Z (W ⟨m,0,O⟩)] 149)).alloc (J #[V I bs] 3)).alloc (J #[.iface 310 (γ #[])] 308))=x:=⟨_,rfl⟩;have dn:Far xO w a1:=by rw[<-a0];exact(((((((((ξ _ w).alloc _).alloc _).alloc _).alloc _).alloc _).alloc _).alloc _)).alloc _
 have e8:a1.heap.size=c+8:=by rw[<-a0];simp[T]
 have ft:a1.heap[c]? =W (J #[Z (W ⟨m,0,O⟩)] 149 (0,0)):=by rw[<-a0,<-T];exact aa _ (aa _ (aa _ (aa _ (aa _ (aa _ (aa _ (af w _)))))))
 have cv:a1.heap[c+1]? =W (J #[V I (an:Int)] 3 (0,0)):=by rw[<-a0];exact aa _ (aa _ (aa _ (aa _ (aa _ (aa _ (ah _ _ _ (by simp[T])))))))
 have c5:a1.heap[c+2]? =W (J #[V I 0,U ⟨#[]⟩,V I 0,V I 0,U ⟨#[]⟩,Y O 0 0,Y O 0 0] 78 (0,0)):=by rw[<-a0];exact aa _ (aa _ (aa _ (aa _ (aa _ (ah _ _ _ (by simp[T]))))))
 have hE:a1.heap[c+3]? =W (J #[.nilIface] 41 (0,0)):=by rw[<-a0];exact aa _ (aa _ (aa _ (aa _ (ah _ _ _ (by simp[T])))))
 have ha:a1.heap[c+4]? =W (J #[V I 1,U ⟨#[]⟩,V I 0,V I 0,U ⟨#[]⟩,Y O 0 0,Y O 0 0] 78 (0,0)):=by rw[<-a0];exact aa _ (aa _ (aa _ (ah _ _ _ (by simp[T]))))
 have g7:a1.heap[c+5]? =W (J #[Z (W ⟨m,0,O⟩)] 149 (0,0)):=by rw[<-a0];exact aa _ (aa _ (ah _ _ _ (by simp[T])))
 have g3:a1.heap[c+6]? =W (J #[V I bs] 3 (0,0)):=by rw[<-a0];exact aa _ (ah _ _ _ (by simp[T]))
 have f4:a1.heap[c+7]? =W (J #[.iface 310 (γ #[])] 308 (0,0)):=by rw[<-a0];exact ah _ _ _ (by simp[T])
 have e0:(((((w.alloc (J #[Z (W ⟨m,0,O⟩)] 149)).alloc (J #[V I (an:Int)] 3)).alloc (J #[V I 0,U ⟨#[]⟩,V I 0,V I 0,U ⟨#[]⟩,Y O 0 0,Y O 0 0] 78)).alloc (J #[.nilIface] 41)).alloc (J #[V I 1,U ⟨#[]⟩,V I 0,V I 0,U ⟨#[]⟩,Y O 0 0,Y O 0 0] 78)).cell? ⟨c,0,O⟩=W (Z (W ⟨m,0,O⟩)):=by rw[<-T];exact ae (aa _ (aa _ (aa _ (aa _ (af w _))))) 0
 have hn:(((((w.alloc (J #[Z (W ⟨m,0,O⟩)] 149)).alloc (J #[V I (an:Int)] 3)).alloc (J #[V I 0,U ⟨#[]⟩,V I 0,V I 0,U ⟨#[]⟩,Y O 0 0,Y O 0 0] 78)).alloc (J #[.nilIface] 41)).alloc (J #[V I 1,U ⟨#[]⟩,V I 0,V I 0,U ⟨#[]⟩,Y O 0 0,Y O 0 0] 78)).heap.size=c+5:=by simp[T]
 have g6:=b.far dn (λe=>e) (λe=>e) (λ_ _ _ e=>e);have e3:=jS false av bs m bD (c+5) (c+5+1) (c+5+1+1) a1 g7 g3 f4 (λe ca=>by
  obtain⟨i,er,rfl⟩:=List.getElem_of_mem ca;obtain⟨bm,d4,_⟩:=fr i _ (zE er);exact⟨bm,by rw[d4];rfl,λb=>by cases b⟩)
 have ge:SqI w c m A bx an bD av bn 0 (λk=>k=m\/k=A\/k=c+4) a1:=⟨λk g=>by rw[e8];omega,λk g=>by omega,.inl rfl,.inr (.inl rfl),.inr (.inr rfl),by omega,by rw[List.drop_zero];exact g6,⟨Y O 0 0,[],xO,ha,World.ownsRow_nil _ _ _ _,λk b=>by simp[Value.ownBlock]at b,by rw[List.take_zero];unfold xU;rfl,λ_ b=>b.elim⟩,dn.mono (λ_ _ e=>e.elim),ft,cv,c5,hE⟩;rw[en]at e3;obtain⟨hw,co,c9,kf,m4,k2⟩:=zx6 a0 T e8 e3 ge fr;obtain⟨i6,kg,cm⟩:=zx3 f7 hK es;have cf:=zD (θ en (θ c1 f2));have nm:=zD dn;clear a0 dn e8 ft cv c5 hE ha g7 g3 f4 g6 e3 ge fr f7 hK es b hR en c1 f2;refine callsIn_wide.1 (callsIn_of_wp_marks (n:=5) func153 rfl trivial (wpIn_wide.2 ?_));simp only[ntmps153,List.size_toArray,zO,List.length_nil,Nat.reduceAdd,Nat.reduceSub,Array.replicate_succ,Array.replicate_zero,List.push_toArray,List.append_toArray,List.nil_append,List.cons_append]
 go_upto_region 2 with (fail)
 go_wp2_with fail
 refine(jT m bs 310 _ _).mono ?_;rintro e nx ⟨rfl,rfl⟩;rw[hn];clear T e0 hn;rw[hw.out];clear hw
 go_wp2_with fail
 rw[show c+1+1+1+1=c+4 by omega,show c+1+1+1=c+3 by omega,show c+1+1=c+2 by omega];refine wpIn_wide.1 (aC (n:=5) (gf:=235) (lb:=#[Z (W ⟨c+5,0,O⟩),Z (W ⟨c+5+1,0,O⟩),Z (W ⟨c+5+1+1,0,O⟩)]) rfl (λargs wx=>kW args wx)
  kf.out (λk e=>e.elim) (λk e=>by have:=c9.out;omega) (λt v ih d b=>by obtain⟨⟨e,v,_,rfl,_⟩,_⟩:=b;rfl)
  (SqI w c m A bx an bD av bn) (λ_ _ _=>False) (λk=>k=m\/k=A\/k=c+4) (λk b=>?hF0) m4.out ?hI (λ_ _ _ _ b _=>b) (λt a6 d b=>⟨_,_,b.rd⟩) (λ_ _ _ _=>trivial) ?round ?done (λ_ _ _ b=>b.elim))
 case hF0=>
  have:=c9.out;refine⟨λe=>e,λe=>?_,by omega,by omega,λ_=>by omega⟩;omega
 case hI=>
  rintro t a6 d m1 b b4;exact b.step co.out cm.out b4 (λk e=>⟨e.1,by have:=c9.out;rcases e.2 with b|b;exact b.elim;omega⟩)
 case round=>
  rintro t a6 ih i7 d K n0 ks hI ⟨⟨e,v,ca,rfl,a5⟩,rfl⟩ k5 b5 l;have dp:=c9.out;rw[dp]at ks b5;obtain⟨hk,fz,gr,rfl⟩:∃a n f0,v=Y a n f0:=by obtain⟨a,_,_,f0,b,_⟩:=a5;exact⟨_,_,_,b⟩
  gi_wp2
  refine l _ _ ((ξ _ d).alloc _) ?_;intro ac d2 _ _;rw[dp]at d2;have N:Far (·=c+8+1) d ac:=((ξ (·=c+8+1) d).alloc (J #[V I e.no,V I e.col,Y hk fz gr] 220)).trans d2;have ds:=d2.heap (af d (J #[V I e.no,V I e.col,Y hk fz gr] 220)) (by omega);obtain⟨q,dr⟩:∃q,d.heap.size=q:=⟨_,rfl⟩;rw[dr]at ds ⊢;have cc:=hI.step co.out cm.out N (λk e=>⟨λg=>(b5 k g).2.1 e,by omega⟩);have hV:=a5.far N (λk g _ e=>by have:=cm.out k g;omega);have no:=N.size;have hY:∀k,a6 k->k < q:=λk g=>by rw[<-dr];exact hI.lt k g
  have e9:=lt_of_heap ds;obtain⟨ga,k4,f9,x,b3,ht⟩:=k2.out t e ca;obtain⟨fG,hH⟩:=i6.out e (zL ca);have b0:=cc.rd;rw[aE av t e ca]at b0;have hs:Glob ac:=kg.out.far cc.far (λk g e=>by rcases e with rfl|rfl<;>omega);have gk:=tU m A (bx+3 * t) bD e _ _ (an+1) x ac b0 hV f9 fG hH hs m2 mb (by have:=cf.out.2.2;omega) (by have:=cf.out.2.2;subst this;exact ht);have oj:IntKind.i64.wrap ((an:Int)+1)=((an+1:Nat):Int):=by have:=cf.out.2.2;subst this;rfl
  have nd:c+8<=q:=by omega
  have n8:t<=100000:=by have:=cf.out.1;omega
  obtain⟨f3,X⟩:=zx2 gk cc;have l1:=zD (θ b3 ga);obtain⟨g5,n5⟩:=zx2 hY dr;obtain⟨e0,_⟩:=sS cc.bx.1;obtain⟨m3,_⟩:=sS cc.bx.2.1;obtain⟨l6,kl,h7,_⟩:=bv ds;clear gk cc hI a5 hV hs b0 b3 ga k4 f9 ht fG hH ca hY dr N d2 l k5 ds
  gi_wp2
  refine⟨trivial,callsIn_wide.2 (f3.out.mono ?_)⟩;rintro l0 ad ⟨⟨e7,rfl,cb⟩,hj,P⟩;obtain⟨C,z,H,L,E,G,u,F,s,y,M,rfl⟩:=cb.form;have e1:=P.size;obtain⟨f,fl⟩:∃q,ad.heap.size=q:=⟨_,rfl⟩;have hb:Far (λk=>k=m\/k=A) ac (ad.alloc (J #[V I C,U z,V I H,V I L,U E,Y G u F,Y s y M] 78)):=P.alloc _;have hN:(ad.alloc (J #[V I C,U z,V I H,V I L,U E,Y G u F,Y s y M] 78)).heap[f]? =W (J #[V I C,U z,V I H,V I L,U E,Y G u F,Y s y M] 78 (0,0)):=by rw[<-fl];exact af ad _
  have hq:=xS.far ((ξ xO ad).alloc (J #[V I C,U z,V I H,V I L,U E,Y G u F,Y s y M] 78)) (λ_ _ _ e=>e) _ _ (xS.mono (G':=λk=>ac.heap.size<=k/\k < f) (λk bm d4=>⟨bm,by omega⟩) _ _ cb);have gx:=hj.far ((ξ xO ad).alloc (J #[V I C,U z,V I H,V I L,U E,Y G u F,Y s y M] 78)) (λe=>e) (λe=>e) (λ_ _ _ e=>e);have hJ:(ad.alloc (J #[V I C,U z,V I H,V I L,U E,Y G u F,Y s y M] 78)).heap.size=f+1:=by rw[<-fl];exact Array.size_push ..
  obtain⟨h2,gc,b9,bw,d3⟩:=zx5 hq gx hb hN hJ;clear cb hj P hb hN hq gx hJ f3 e0 m3 l6 kl h7
  gi_wp2_with (fail)
  obtain⟨e4,da,d5,a4,bb,ch,cl,bk⟩:=X.out.row;obtain⟨r,o,rfl⟩:∃r o,e4=Y r t o:=by
   rcases bb.2 with ⟨a5,b1⟩|⟨h5,k1,eq,a5,_⟩
   ·exact⟨O,0,by rw[a5,b1]⟩
   ·exact⟨_,_,a5⟩
  have e5:=X.out.lt;have ne:¬c+4=m/\¬c+4=A:=by omega
  have fn:=b9.out.heap a4 (λe=>by omega);have R:∀k,(Value.slice r t o).ownBlock=W k->a6 k/\k≠c+4/\k≠m/\k≠A/\c+8<=k/\k < q:=λk e=>by
   have bm:=bb.lt k e;exact⟨ch k e,by omega,by omega,by omega,bm.1,g5.out k (ch k e)⟩
  have hU:=am bb b9.out (λk e l0=>by have:=R k e;omega);have ab:(λd=>d.cell? ⟨c+4,6,O⟩=W (Y r t o)/\d.cell? ⟨f,0,O⟩=W (V I C)/\d.cell? ⟨f,1,O⟩=W (U z)/\d.cell? ⟨f,2,O⟩=W (V I H)/\d.cell? ⟨f,3,O⟩=W (V I L)/\d.cell? ⟨f,4,O⟩=W (U E)/\d.cell? ⟨f,5,O⟩=W (Y G u F)/\d.cell? ⟨f,6,O⟩=W (Y s y M)) (ad.alloc (J #[V I C,U z,V I H,V I L,U E,Y G u F,Y s y M] 78)):=⟨ae fn 6,ae bw.out 0,ae bw.out 1,ae bw.out 2,ae bw.out 3,ae bw.out 4,ae bw.out 5,ae bw.out 6⟩;have n2:q < f:=by omega
  have op:ac.heap.size<=f:=by omega
  clear fl;generalize (ad.alloc (J #[V I C,U z,V I H,V I L,U E,Y G u F,Y s y M] 78))=be at *;have a2:=zD ab;refine aN (λd=>d.cell? ⟨c+4,6,O⟩=W (Y r t o)/\d.cell? ⟨f,0,O⟩=W (V I C)/\d.cell? ⟨f,1,O⟩=W (U z)/\d.cell? ⟨f,2,O⟩=W (V I H)/\d.cell? ⟨f,3,O⟩=W (V I L)/\d.cell? ⟨f,4,O⟩=W (U E)/\d.cell? ⟨f,5,O⟩=W (Y G u F)/\d.cell? ⟨f,6,O⟩=W (Y s y M)) [6,7,8,9] (by kernel_rfl) (by kernel_rfl) (λb=>by obtain⟨_,_,b⟩:=b;exact b) ?_;refine ay 10 (by kernel_rfl) (λ_ _ _ _ b=>b) (show (λd=>d.cell? ⟨c+4,6,O⟩=W (Y r t o)/\d.cell? ⟨f,0,O⟩=W (V I C)/\d.cell? ⟨f,1,O⟩=W (U z)/\d.cell? ⟨f,2,O⟩=W (V I H)/\d.cell? ⟨f,3,O⟩=W (V I L)/\d.cell? ⟨f,4,O⟩=W (U E)/\d.cell? ⟨f,5,O⟩=W (Y G u F)/\d.cell? ⟨f,6,O⟩=W (Y s y M)) be.drew from a2.out) 6 [0,1,2,3] _ _ (by kernel_rfl) ?_;iterate 4 (refine ax (v:=?_) ?_ ?_;rotate_left;·(intro f8 b2;(try dsimp only at b2);(try obtain⟨mp,h9,l2,i8,l3,js,i4,ln⟩:=b2);go_simp;try with_reducible rfl);(try go_frame))
  refine xT.done ?_;try dsimp only
  refine aq [4] ?_;refine aj rfl (λK l=>?_) xQ.nil
  go_simp
  obtain⟨bR,ck⟩:∃d,(be.alloc (J #[V I 0,U ⟨#[]⟩,V I 0,V I 0,U ⟨#[]⟩,Y O 0 0,Y O 0 0] 78)).drew=d:=⟨_,rfl⟩;have N:Far xO be bR:=by rw[<-ck];exact((ξ _ be).alloc _).drew
  have hP:bR.heap[f+1]? =W (J #[V I 0,U ⟨#[]⟩,V I 0,V I 0,U ⟨#[]⟩,Y O 0 0,Y O 0 0] 78 (0,0)):=by rw[<-ck,<-d3.out];exact cq (af be _)
  have ns:bR.heap.size=f+2:=by rw[<-ck,show f+2=be.heap.size+1 by rw[d3.out]];exact Array.size_push ..
  rw[show be.heap.size=f+1 from d3.out];have ba:(λd=>d.cell? ⟨c+4,6,O⟩=W (Y r t o)/\d.cell? ⟨f,0,O⟩=W (V I C)/\d.cell? ⟨f,1,O⟩=W (U z)/\d.cell? ⟨f,2,O⟩=W (V I H)/\d.cell? ⟨f,3,O⟩=W (V I L)/\d.cell? ⟨f,4,O⟩=W (U E)/\d.cell? ⟨f,5,O⟩=W (Y G u F)/\d.cell? ⟨f,6,O⟩=W (Y s y M)) bR:=⟨N.at ab.1 (id),N.at ab.2.1 (id),N.at ab.2.2.1 (id),N.at ab.2.2.2.1 (id),N.at ab.2.2.2.2.1 (id),N.at ab.2.2.2.2.2.1 (id),N.at ab.2.2.2.2.2.2.1 (id),N.at ab.2.2.2.2.2.2.2 (id)⟩;have hh:=zD ba;refine l.out _ _ (λ_=>(by rw[ck];exact hh.out)) ?_;rw[ck];clear l K ck ab
  (try go_frame)
  have hy:=am hU N (λ_ _ e=>e);refine aq [5] ?_;refine aj rfl (λK l=>?_) xQ.nil;refine wp_append_lies bR (.tmp 32) (.tmp 35) 76 rfl (c+8) 78 md _ 7 104 underlying76 er l7 kn la rfl (by decide) (Y r t o) t da rfl hy ⟨f+1,0,O⟩ 1 1 [V I 0,U ⟨#[]⟩,V I 0,V I 0,U ⟨#[]⟩,Y O 0 0,Y O 0 0] ?_ rfl ?_ ?_ (by decide) ?_ ?_ ?_ bR.heap.size rfl ?_
  ·rfl
  ·intro j i7 l5
   have le:(⟨f+1,0,O⟩:Addr).add j=⟨f+1,j,O⟩:=by unfold Addr.add;split<;>simp_all
   rw[le,ae hP j]
   simpa using l5
  ·simp[Value.oneCell']
  ·unfold maxLen;omega
  ·omega
  ·omega
  intro gg cap ao c0 hW e6 np;have a3:Far (λk=>(Value.slice r t o).ownBlock=W k) bR ao:=(ξ _ bR).grown hW (λk e _=>e);have ho:(λd=>d.cell? ⟨c+4,6,O⟩=W (Y r t o)/\d.cell? ⟨f,0,O⟩=W (V I C)/\d.cell? ⟨f,1,O⟩=W (U z)/\d.cell? ⟨f,2,O⟩=W (V I H)/\d.cell? ⟨f,3,O⟩=W (V I L)/\d.cell? ⟨f,4,O⟩=W (U E)/\d.cell? ⟨f,5,O⟩=W (Y G u F)/\d.cell? ⟨f,6,O⟩=W (Y s y M)) ao:=⟨a3.at ba.1 (λe=>(R _ e).2.1 rfl),a3.at ba.2.1 (λe=>by have b:=(R _ e).2.2.2.2.2;dsimp only at b;omega),a3.at ba.2.2.1 (λe=>by have b:=(R _ e).2.2.2.2.2;dsimp only at b;omega),a3.at ba.2.2.2.1 (λe=>by have b:=(R _ e).2.2.2.2.2;dsimp only at b;omega),a3.at ba.2.2.2.2.1 (λe=>by have b:=(R _ e).2.2.2.2.2;dsimp only at b;omega),a3.at ba.2.2.2.2.2.1 (λe=>by have b:=(R _ e).2.2.2.2.2;dsimp only at b;omega),a3.at ba.2.2.2.2.2.2.1 (λe=>by have b:=(R _ e).2.2.2.2.2;dsimp only at b;omega),a3.at ba.2.2.2.2.2.2.2 (λe=>by have b:=(R _ e).2.2.2.2.2;dsimp only at b;omega)⟩;have hc:=zD ho;refine l.out _ _ (λ_=>hc.out) ?_;clear l K ba
  (try go_frame)
  have nf:(0:Int)<=(t:Int):=by omega
  have om:(t:Int) < (t:Int)+1:=by omega
  refine ee (by kernel_rfl) (λ_ _ _ _ b=>b) 2 [6,8] _ _ (by kernel_rfl) ?_;iterate 2 (refine ax (v:=?_) ?_ ?_;rotate_left;·(intro f8 b2;go_simp;try with_reducible rfl);(try go_frame))
  refine xT.done ?_;try dsimp only
  have nn:=(c0.lt gg rfl).1;have d6:gg < q/\a6 gg\/f+2<=gg:=by
   rcases e6 with e|e
   ·exact .inl ⟨(R gg e).2.2.2.2.2,(R gg e).1⟩
   ·right;omega
  have eg:=a3.heap (N.heap fn id) (λe=>(R _ e).2.1 rfl);have dv:c+4≠gg:=by omega
  have hL:gg≠c+4:=by omega
  have d1:=bb.1;have hM:∀al:World,al.heap[c+4]? =W (J #[V I 1,U ⟨#[]⟩,V I 0,V I 0,U ⟨#[]⟩,Y O 0 0,(Y (W ⟨gg,0,O⟩) (t+1) cap)] 78 (0,0))->al.ownsRow (c+8) 78 7 (Y (W ⟨gg,0,O⟩) (t+1) cap) (t+1) (da++[V I C,U z,V I H,V I L,U E,Y G u F,Y s y M])->Far (λk=>k=gg\/k=c+4) ao al->
   ∃hd,SqI w c m A bx an bD av bn (t+1) hd al/\Far a6 ac al/\∀k,hd k->(a6 k\/xO k\/q<=k)/\(True->k < al.heap.size):=by
   intro al l4 kt b4;have oi:=d3.out;have i5:Far (λk=>(Value.slice r t o).ownBlock=W k) be ao:=(N.mono (λ_ _ e=>e.elim)).trans a3;have c6:Far (λk=>(Value.slice r t o).ownBlock=W k\/k=gg\/k=c+4) be al:=(i5.mono (λ_ _ e=>.inl e)).step b4 (λ_ _ e=>.inr e);have on:=b9.out.size;have oe:=c6.size;have kv:Far a6 ac al:=(b9.out.mono (λk _ e=>by rcases e with rfl|rfl;exact X.out.fR;exact X.out.fG)).step c6 (λk g e=>by
    rcases e with e|e|e
    ·exact(R k e).1
    ·subst e
     rcases d6 with b|b
     ·exact b.2
     ·omega
    ·exact e ▸ X.out.f4)
   have h8:∀k,((Value.slice r t o).ownBlock=W k\/k=gg\/k=c+4)->a6 k\/f+2<=k:=λk e=>by
    rcases e with e|e|e
    ·exact .inl (R k e).1
    ·subst e
     rcases d6 with b|b
     ·exact .inl b.2
     ·exact .inr b
    ·exact .inl (e ▸ X.out.f4)
   have c2:∀k,((Value.slice r t o).ownBlock=W k\/k=gg\/k=c+4)->k=c+4\/c+8<=k:=λk e=>by
    rcases e with e|e|e
    ·exact .inr (R k e).2.2.2.2.1
    ·exact .inr (by omega)
    ·exact .inl e
   have b8:Far (λk=>k=m\/k=A\/((Value.slice r t o).ownBlock=W k\/k=gg\/k=c+4)) ac al:=(b9.out.mono (λk _ e=>by rcases e with e|e;exact .inl e;exact .inr (.inl e))).step c6 (λk _ e=>.inr (.inr e));have h0:∀k,d5 k->k≠gg:=λk g e=>by
    rcases e6 with b|b
    ·exact(bk k g).2.2 (e ▸ b)
    ·have:=e5 k (bk k g).1;omega
   have lt:xU al (λk=>d5 k\/(ac.heap.size<=k/\k < f)) (bn.take (t+1)) (da++[V I C,U z,V I H,V I L,U E,Y G u F,Y s y M]):=by
    rw[zG,l1.out.1];exact xU.snoc (xS.mono (λ_ b _=>.inr b) _ _ (xS.far c6 (λk g _ e=>by
     have n1:=e9;rcases h8 k e with b|b
     ·have:=g5.out k b;omega
     ·omega) _ _ h2.out)) _ _ (xU.mono (λ_ b _=>.inl b) _ _ (xU.far b8 (λk g _ e=>by
     have bm:=bk k g;rcases e with e|e|e|e|e
     ·omega
     ·omega
     ·exact bm.2.2 e
     ·exact h0 k g e
     ·omega) _ _ cl))
   refine⟨λk=>a6 k\/(f<=k/\k < al.heap.size)\/(ac.heap.size<=k/\k < f),⟨?_,?_,.inl X.out.fR,.inl X.out.fG,.inl X.out.f4,?_,?_,⟨_,_,λk=>d5 k\/(ac.heap.size<=k/\k < f),l4,kt,?_,lt,?_⟩,?_,?_⟩,kv,?_⟩
   ·intro k g
    rcases g with b|b|b
    ·have:=e5 k b;omega
    ·exact b.2
    ·omega
   ·intro k g
    rcases g with b|b|b
    ·exact X.out.fr k b
    ·right;right;omega
    ·right;right;omega
   ·have:=X.out.nb
    refine⟨?_,?_,?_,?_⟩<;>(intro b;rcases b with b|b|b<;>first|omega|(first|exact this.1 b|exact this.2.1 b|exact this.2.2.1 b|exact this.2.2.2 b))
   ·have b2:=gc.out.far c6 (λe=>by rcases c2 m e with b|b<;>omega) (λe=>by rcases c2 A e with b|b<;>omega) (λk g _ e=>by have:=cm.out k g;rcases c2 k e with b|b<;>omega)
    rw[show bx+3 * (t+1)=bx+3 * t+3 by omega];exact b2
   ·intro k e
    injection e with e;dsimp only at e
    subst e;rcases d6 with b|b
    ·exact .inl b.2
    ·exact .inr (.inl ⟨by omega,by have:=b4.size;omega⟩)
   ·intro k g
    rcases g with b|b
    ·refine⟨.inl (bk k b).1,(bk k b).2.1,λe=>?_⟩
     injection e with e;exact h0 k b e.symm
    ·refine⟨.inr (.inr b),by omega,λe=>?_⟩
     injection e with e;dsimp only at e
     have:=e9;rcases d6 with mt|mt<;>omega
   ·exact X.out.far.step b8 (λk g e=>by
     rw[co.out]at g;rcases e with e|e|e
     ·exact .inl e
     ·exact .inr e
     ·rcases c2 k e with b|b<;>omega)
   ·have b3:=X.out.bx
    have b1:∀k,(k=c\/k=c+1\/k=c+2\/k=c+3)->¬(k=m\/k=A\/((Value.slice r t o).ownBlock=W k\/k=gg\/k=c+4)):=λk g e=>by
     rcases e with e|e|e
     ·omega
     ·omega
     ·rcases c2 k e with b|b<;>omega
    exact⟨b8.heap b3.1 (b1 _ (.inl rfl)),b8.heap b3.2.1 (b1 _ (.inr (.inl rfl))),b8.heap b3.2.2.1 (b1 _ (.inr (.inr (.inl rfl)))),b8.heap b3.2.2.2 (b1 _ (.inr (.inr (.inr rfl))))⟩
   ·intro k g
    rcases g with b|b|b
    ·exact⟨.inl b,λ_=>by have:=e5 k b;omega⟩
    ·exact⟨.inr (.inr (by omega)),λ_=>b.2⟩
    ·have:=e9
     exact⟨.inr (.inr (by omega)),λ_=>by omega⟩
  obtain⟨hS,g0,hT⟩:=zx3 hM c0 eg;have h1:∀(d:World),Far (·=gg) ao d->d.frozen? ⟨c+4,6,O⟩=false/\d.cell? ⟨c+4,6,O⟩=W (Y r t o):=λd b4=>⟨ag (b4.heap eg dv) 6,ae (b4.heap eg dv) 6⟩;have hQ:=zD h1;obtain⟨eq,S⟩:=aU c0;have hu:=ag S (t * 7);have h3:=ag S (t * 7+1);have hG:=ag S (t * 7+2);have fR:=ag S (t * 7+3);have f6:=ag S (t * 7+4);have g2:=ag S (t * 7+5);have f1:=ag S (t * 7+6);obtain⟨hZ,hx,hr,hi,fv,hz,hB⟩:=dL c0 d1;have dc:Far (·=gg) ao (((((((ao.setCell ⟨gg,t * 7,O⟩ (V I C)).setCell ⟨gg,t * 7+1,O⟩ (U z)).setCell ⟨gg,t * 7+2,O⟩ (V I H)).setCell ⟨gg,t * 7+3,O⟩ (V I L)).setCell ⟨gg,t * 7+4,O⟩ (U E)).setCell ⟨gg,t * 7+5,O⟩ (Y G u F)).setCell ⟨gg,t * 7+6,O⟩ (Y s y M)):=((((((((ξ (·=gg) ao).setCell (p:=⟨gg,t * 7,O⟩) (λ_=>rfl) _).setCell (p:=⟨gg,t * 7+1,O⟩) (λ_=>rfl) _).setCell (p:=⟨gg,t * 7+2,O⟩) (λ_=>rfl) _).setCell (p:=⟨gg,t * 7+3,O⟩) (λ_=>rfl) _).setCell (p:=⟨gg,t * 7+4,O⟩) (λ_=>rfl) _).setCell (p:=⟨gg,t * 7+5,O⟩) (λ_=>rfl) _).setCell (p:=⟨gg,t * 7+6,O⟩) (λ_=>rfl) _);clear hM c0 eg h1 S a3 N a4 bb ch cl bk fn hU hy hW e6 R ho hP hc hh a2 X gc h2 b9 bw;refine aq [7,9] ?_;refine aj rfl (λK l=>?_) (aj rfl (λK l=>?_) xQ.nil)
  ·go_simp
   refine l.out _ _ (λb=>absurd (by simp) b) ?_;clear l K
   (try go_frame)
   refine aq [9] ?_;refine aj rfl (λK l=>?_) xQ.nil;have b6:=hQ.out _ dc;have cv:=b6.1;have c5:=b6.2;clear b6
   go_simp
   refine l.out _ _ (λb=>absurd (by simp) b) ?_;clear l K;refine aP (by kernel_rfl) ?_ _;exact hS.out _ (ai (dc.heap hT.out dv) 6 _) (am (bP _ _ _ _ _ _ _ g0.out d1) (Far.setCell (D:=(·=c+4)) (ξ _ _) (p:=⟨c+4,6,O⟩) (λ_=>rfl) _) (λk e b=>by injection e with e;exact hL (e.trans b))) (Far.setCell (D:=λk=>k=gg\/k=c+4) (dc.mono (λ_ _ e=>.inl e)) (p:=⟨c+4,6,O⟩) (λ_=>.inr rfl) _)
  ·have b6:=hQ.out _ (ξ _ ao)
   have cv:=b6.1;have c5:=b6.2;clear b6 dc
   go_simp
   refine l.out _ _ (λb=>absurd (by simp) b) ?_;clear l K
   (try go_frame)
   have ex:Far (·=c+4) ao (ao.setCell ⟨c+4,6,O⟩ (Y (W ⟨gg,0,O⟩) (t+1) cap)):=Far.setCell (D:=(·=c+4)) (ξ _ _) (p:=⟨c+4,6,O⟩) (λ_=>rfl) _;have ei:=am g0.out ex (λk e b=>by injection e with e;exact hL (e.trans b));have he:=ai hT.out 6 (Y (W ⟨gg,0,O⟩) (t+1) cap);clear hu h3 hG fR f6 g2 f1 hZ hx hr hi fv hz hB cv c5;obtain⟨db,g8⟩:∃db,ao.setCell ⟨c+4,6,O⟩ (Y (W ⟨gg,0,O⟩) (t+1) cap)=db:=⟨_,rfl⟩;rw[g8]at ex ei he ⊢;clear g8;obtain⟨eq,S⟩:=aU ei;have hu:=ag S (t * 7);have h3:=ag S (t * 7+1);have hG:=ag S (t * 7+2);have fR:=ag S (t * 7+3);have f6:=ag S (t * 7+4);have g2:=ag S (t * 7+5);have f1:=ag S (t * 7+6);obtain⟨hZ,hx,hr,hi,fv,hz,hB⟩:=dL ei d1;refine aq [7] ?_;refine aj rfl (λK l=>?_) xQ.nil
   go_simp
   refine l.out _ _ (λb=>absurd (by simp) b) ?_;clear l K;refine aP (by kernel_rfl) ?_ _;have hf:Far (·=gg) db (((((((db.setCell ⟨gg,t * 7,O⟩ (V I C)).setCell ⟨gg,t * 7+1,O⟩ (U z)).setCell ⟨gg,t * 7+2,O⟩ (V I H)).setCell ⟨gg,t * 7+3,O⟩ (V I L)).setCell ⟨gg,t * 7+4,O⟩ (U E)).setCell ⟨gg,t * 7+5,O⟩ (Y G u F)).setCell ⟨gg,t * 7+6,O⟩ (Y s y M)):=((((((((ξ (·=gg) db).setCell (p:=⟨gg,t * 7,O⟩) (λ_=>rfl) _).setCell (p:=⟨gg,t * 7+1,O⟩) (λ_=>rfl) _).setCell (p:=⟨gg,t * 7+2,O⟩) (λ_=>rfl) _).setCell (p:=⟨gg,t * 7+3,O⟩) (λ_=>rfl) _).setCell (p:=⟨gg,t * 7+4,O⟩) (λ_=>rfl) _).setCell (p:=⟨gg,t * 7+5,O⟩) (λ_=>rfl) _).setCell (p:=⟨gg,t * 7+6,O⟩) (λ_=>rfl) _);exact hS.out _ (hf.heap he dv) (bP _ _ _ _ _ _ _ ei d1) ((ex.mono (λ_ _ e=>.inr e)).trans (hf.mono (λ_ _ e=>.inl e)))
 case done=>
  rintro a6 d hI _ l b5;have dp:=c9.out;rw[dp]at l b5 ⊢;have i0:=hI;obtain⟨bm,d4,nv,n4,n3,nb,b0,⟨e4,da,d5,a4,bb,ch,cl,bk⟩,hD,e2⟩:=hI;have c1:=cf.out.2.1;rw[zR (by omega)]at cl;rw[List.drop_of_length_le (by rw[cf.out.1];exact η _)]at b0;obtain⟨r,o,rfl⟩:∃r o,e4=Y r a9 o:=by
   rcases bb.2 with ⟨a5,b1⟩|⟨h5,k1,eq,a5,_⟩
   ·exact⟨O,0,by rw[a5,b1]⟩
   ·exact⟨_,_,a5⟩
  have cb:xS d (λk=>c+8 < k) ⟨1,[],Tp.Sc.null,[],bn⟩ [V I 1,U ⟨#[]⟩,V I 0,V I 0,U ⟨#[]⟩,Y O 0 0,Y r a9 o]:=by
   unfold xS;refine⟨_,Y r a9 o,da,rfl,cy _ _,xU.mono (λk g _=>by have b:=bk k g;have:=b5 k b.1;omega) _ _ cl,?_⟩;rw[c1];exact(cx bb).mono (λk g _=>by have b:=(bb.lt k g).1;have:=b5 k (ch k g);omega)
  have ab:(λd=>d.cell? ⟨c,0,O⟩=W (Z (W ⟨m,0,O⟩))/\d.cell? ⟨c+4,0,O⟩=W (V I 1)/\d.cell? ⟨c+4,1,O⟩=W (U ⟨#[]⟩)/\d.cell? ⟨c+4,2,O⟩=W (V I 0)/\d.cell? ⟨c+4,3,O⟩=W (V I 0)/\d.cell? ⟨c+4,4,O⟩=W (U ⟨#[]⟩)/\d.cell? ⟨c+4,5,O⟩=W (Y O 0 0)/\d.cell? ⟨c+4,6,O⟩=W (Y r a9 o)) d:=⟨ae e2.1 0,ae a4 0,ae a4 1,ae a4 2,ae a4 3,ae a4 4,ae a4 5,ae a4 6⟩;have hC:=nQ m A _ bD bs d.drew (b0.far ((ξ xO d).drew) (λe=>e) (λe=>e) (λ_ _ _ e=>e));obtain⟨a2,g4,ls,l9,l8,hX⟩:=zx6 ab hC cb b0 hD e2;have i1:=zD l;clear ab hC cb b0 hD e2 l a4 bb ch cl bk bm d4 i0 b5
  go_upto_region 8 with (fail)
  refine wp_region_noPanic ?_;refine ar (λd=>d.cell? ⟨c,0,O⟩=W (Z (W ⟨m,0,O⟩))/\d.cell? ⟨c+4,0,O⟩=W (V I 1)/\d.cell? ⟨c+4,1,O⟩=W (U ⟨#[]⟩)/\d.cell? ⟨c+4,2,O⟩=W (V I 0)/\d.cell? ⟨c+4,3,O⟩=W (V I 0)/\d.cell? ⟨c+4,4,O⟩=W (U ⟨#[]⟩)/\d.cell? ⟨c+4,5,O⟩=W (Y O 0 0)/\d.cell? ⟨c+4,6,O⟩=W (Y r a9 o)) [4,5] (by kernel_rfl) ?_;refine aJ (by kernel_rfl) (λ_ _ _ _ b=>b) (show (λd=>d.cell? ⟨c,0,O⟩=W (Z (W ⟨m,0,O⟩))/\d.cell? ⟨c+4,0,O⟩=W (V I 1)/\d.cell? ⟨c+4,1,O⟩=W (U ⟨#[]⟩)/\d.cell? ⟨c+4,2,O⟩=W (V I 0)/\d.cell? ⟨c+4,3,O⟩=W (V I 0)/\d.cell? ⟨c+4,4,O⟩=W (U ⟨#[]⟩)/\d.cell? ⟨c+4,5,O⟩=W (Y O 0 0)/\d.cell? ⟨c+4,6,O⟩=W (Y r a9 o)) d.drew from a2.out) 3 [0,1,2] _ _ (by kernel_rfl) ?_;iterate 3 (refine ax (v:=?_) ?_ ?_;rotate_left;·(intro f8 b2;(try dsimp only at b2);(try obtain⟨mp,h9,l2,i8,l3,js,i4,ln⟩:=b2);go_simp;try with_reducible rfl);(try go_frame))
  refine xT.done ?_;try dsimp only
  refine aq [3] ?_;refine aj rfl (λK l=>?_) xQ.nil
  go_simp
  refine g4.out.mono ?_;rintro e ad ⟨rfl,gl⟩;have P:Far xO d ad:=((ξ _ d).drew).below gl;have e1:(λd=>d.cell? ⟨c,0,O⟩=W (Z (W ⟨m,0,O⟩))/\d.cell? ⟨c+4,0,O⟩=W (V I 1)/\d.cell? ⟨c+4,1,O⟩=W (U ⟨#[]⟩)/\d.cell? ⟨c+4,2,O⟩=W (V I 0)/\d.cell? ⟨c+4,3,O⟩=W (V I 0)/\d.cell? ⟨c+4,4,O⟩=W (U ⟨#[]⟩)/\d.cell? ⟨c+4,5,O⟩=W (Y O 0 0)/\d.cell? ⟨c+4,6,O⟩=W (Y r a9 o)) ad:=⟨P.at a2.out.1 (id),P.at a2.out.2.1 (id),P.at a2.out.2.2.1 (id),P.at a2.out.2.2.2.1 (id),P.at a2.out.2.2.2.2.1 (id),P.at a2.out.2.2.2.2.2.1 (id),P.at a2.out.2.2.2.2.2.2.1 (id),P.at a2.out.2.2.2.2.2.2.2 (id)⟩;have fs:=P.heap hX.out.2.2.1 id;have hF:=P.heap hX.out.2.2.2 id;refine l.out _ _ (λ_=>e1) ?_;clear l K
  (try go_frame)
  obtain⟨kc,it,h4,k0,i2,lr,h6,kk,k3,ka,kb,m9,kr,i9⟩:=bd fs;obtain⟨⟨c3,j9⟩,hA,hm,g1⟩:=nu fs hF (by omega) (V I 1) (U ⟨#[]⟩) (V I 0) (V I 0) (U ⟨#[]⟩) (Y O 0 0) (Y r a9 o) .nilIface;have gd:=(P.mono (D':=λk=>k=c+2\/k=c+3) (λ_ _ e=>e.elim)).trans g1;have hg:=zD (θ hA (θ hm gd));clear hA hm g1 gd fs hF gl P e1 g4;refine aq [4] ?_;refine aj rfl (λK l=>?_) xQ.nil
  go_simp
  refine l.out _ _ (λb=>absurd (by simp) b) ?_;clear l K
  (try go_frame)
  refine aq [5] ?_;refine aj rfl (λK l=>?_) xQ.nil
  go_simp
  refine l.out _ _ (λb=>absurd (by simp) b) ?_;clear l K
  (try go_frame)
  refine aP (by kernel_rfl) (NoPanic.normal ?_) _;obtain⟨d0,df,c4⟩:=hg.out;have hp:=c4.heap i1.out (by omega);have hv:=xS.far c4 (λk (g:c+8 < k) _ e=>by omega) _ _ ls.out;have f5:=l9.out.far c4 (by omega) (by omega) (λk g _ e=>by have:=cm.out k g;omega);have gb:=l8.out.step c4 (λk g e=>by have:=co.out;omega);have hl:=zD (θ d0 (θ df (θ hp (θ hv (θ f5 gb)))));clear d0 df c4 hp hv f5 gb hg kc it h4 k0 i2 lr h6 kk k3 ka kb m9 kr i9 c3 j9
  go_wp2_with fail
  refine au (q:=c+8) rfl hl.out.2.2.1 ?_;intro m1 ct;obtain⟨d0,df,_,lc,i3,kd⟩:=hl.out;refine⟨.tuple #[γ #[V I 1,U ⟨#[]⟩,V I 0,V I 0,U ⟨#[]⟩,Y O 0 0,Y r a9 o],.nilIface],dG results153 _ (c+2) (c+3) _ _ _ (ct.heap d0 (by omega)) rfl (ct.heap df (by omega)) rfl rfl,⟨_,rfl,xS.mono (λk g _=>by have:=co.out;show w.heap.size<=k;omega) _ _ (xS.far ct (λk (g:c+8 < k) _ e=>by omega) _ _ lc)⟩,i3.far ct (by omega) (by omega) (λk g _ e=>by have:=cm.out k g;omega),kd.step ct (λk g e=>by have:=co.out;omega)⟩
end
section
attribute [local go_sem] ak
theorem j1{g:Func}{a f d:Tmp}(m:g.results=#[.cell a 30,.cell f 78,.tmp d])(b:World)(q p:Nat)(x e z:Value)(xs c:Array Value)(t:b.heap[q]? =W (J #[x,e,z] 30 (0,0)))(k:b.heap[p]? =W (J xs 78 (0,0)))(s:xs.size=7)(i:c.getD a undef=Z (W ⟨q,0,O⟩))(o:c.getD f undef=Z (W ⟨p,0,O⟩)):
 (results g c).run π b=.ok (.tuple #[γ #[x,e,z],γ xs,c.getD d undef]) b:=by
 have l:c[a]?.getD undef=Z (W ⟨q,0,O⟩):=by simpa using i
 have r:c[f]?.getD undef=Z (W ⟨p,0,O⟩):=by simpa using o
 have n:=run_loadVar_row (P:=π) b q 30 30 #[x,e,z] (0,0) _ t underlying30 rfl (by kernel_rfl);have j:=run_loadVar_row (P:=π) b p 78 78 xs (0,0) _ k underlying78 rfl (by rw[s];exact gS);simp[results,m,asAddr,l,r,n,j,Sem.run_bind,Result.andThen]
theorem wh(l:List Tp.Tk)(a:World):(Instr.typeAssert (zc l) 308 313 true).run π a=.ok (.tuple #[γ #[U ⟨#[]⟩],β false]) a:=by
 unfold zc;split
 ·kernel_rfl
 ·split<;>kernel_rfl
theorem sJ(l:List Tp.Tk):∃T,zc l=.iface T (γ #[]):=by
 unfold zc;split
 ·exact⟨_,rfl⟩
 ·split<;>exact⟨_,rfl⟩
theorem tD(E b2 e1 c1:Nat)(G:NS)(e:Tp.En)(d5:List Tp.En)(v:Value)(x:Tp.Sc)(t:Tp.Tree)(a9:Tp.Tk)(w:World)(f:yp w E b2 e1 G (e::d5))(bn:Row w G e.l.length v (xZ e.l))(eq:e.l[0]? =W a9)(fv:Tp.fkey a9=W x)(e8:Tp.isName1 (e.l.drop 2)=false)(bR:(e.l.drop 2).isEmpty=false)(eg:∀t∈e.l,zf t)(hs:e.l.length<=100000)(ba:Glob w)(kk:10<=E)(i6:10<=b2)(hS:c1<=24)(gd:Tp.bval (e.l.drop 2) c1=W t):
 Calls π 203 #[Z (W ⟨E,0,O⟩),γ #[V I e.no,V I e.col,v],V I (c1:Int)] w λb6 w'=>(∃dc:List Value,b6=ρ (.tuple #[scV x,γ dc.toArray,.nilIface])/\xS w' (New w) t dc)/\yp w' E b2 (e1+3) G d5/\Far (λk=>k=E\/k=b2) w w':=by
 have hK:3<=e.l.length:=by
  have a3:(e.l.drop 2)≠[]:=by simpa using bR
  have M:=List.length_pos_iff.2 a3;rw[zZ]at M;omega
 obtain⟨h6,g,o,d,rfl,gb,hc⟩:=iN bn;obtain⟨rfl,hC,b8,bm,b9⟩:=hc 0 a9 eq;rw[Nat.zero_mul,Nat.add_zero]at b8 bm b9;obtain⟨c,R⟩:∃n,e.l.length=n:=⟨_,rfl⟩;have h1:c<=d/\d<=maxLen:=by obtain⟨_,_,_,_,b4,a3,_⟩:=bn;injection b4 with _ _ dr;subst dr;rw[<-R];exact a3
 rw[R]at bn hK gb hs;have e4:=bn.dropTk R.symm 2 (by omega) rfl;have ct:=λb ba=>rk a9 (eg a9 (zL eq)) x fv b ba;obtain⟨q,T⟩:∃q,w.heap.size=q:=⟨_,rfl⟩;have c5:Far xO w (((w.alloc (J #[V I e.no,V I e.col,Y (W ⟨g,o,O⟩) c d] 220)).alloc (J #[V I 0,V I 0,U ⟨#[]⟩] 30)).alloc (J #[V I 0,U ⟨#[]⟩,V I 0,V I 0,U ⟨#[]⟩,Y O 0 0,Y O 0 0] 78)):=(((ξ _ w).alloc _).alloc _).alloc _;have c6:(((w.alloc (J #[V I e.no,V I e.col,Y (W ⟨g,o,O⟩) c d] 220)).alloc (J #[V I 0,V I 0,U ⟨#[]⟩] 30)).alloc (J #[V I 0,U ⟨#[]⟩,V I 0,V I 0,U ⟨#[]⟩,Y O 0 0,Y O 0 0] 78)).heap[q]? =W (J #[V I e.no,V I e.col,Y (W ⟨g,o,O⟩) c d] 220 (0,0)):=by rw[<-T];exact aa _ (aa _ (af w _))
 have f2:(((w.alloc (J #[V I e.no,V I e.col,Y (W ⟨g,o,O⟩) c d] 220)).alloc (J #[V I 0,V I 0,U ⟨#[]⟩] 30)).alloc (J #[V I 0,U ⟨#[]⟩,V I 0,V I 0,U ⟨#[]⟩,Y O 0 0,Y O 0 0] 78)).heap[q+1]? =W (J #[V I 0,V I 0,U ⟨#[]⟩] 30 (0,0)):=aa _ (ah _ _ _ (by simp[T]));have g1:(((w.alloc (J #[V I e.no,V I e.col,Y (W ⟨g,o,O⟩) c d] 220)).alloc (J #[V I 0,V I 0,U ⟨#[]⟩] 30)).alloc (J #[V I 0,U ⟨#[]⟩,V I 0,V I 0,U ⟨#[]⟩,Y O 0 0,Y O 0 0] 78)).heap[q+2]? =W (J #[V I 0,U ⟨#[]⟩,V I 0,V I 0,U ⟨#[]⟩,Y O 0 0,Y O 0 0] 78 (0,0)):=ah _ _ _ (by simp[T]);have hd:(((w.alloc (J #[V I e.no,V I e.col,Y (W ⟨g,o,O⟩) c d] 220)).alloc (J #[V I 0,V I 0,U ⟨#[]⟩] 30)).alloc (J #[V I 0,U ⟨#[]⟩,V I 0,V I 0,U ⟨#[]⟩,Y O 0 0,Y O 0 0] 78)).heap.size=q+3:=by simp[T]
 obtain⟨it,d3⟩:∃d1,xR a9.s=U d1:=⟨_,rfl⟩;obtain⟨SX,cl⟩:∃d1,xR x.s=U d1:=⟨_,rfl⟩;rw[d3]at bm;unfold tkV yK scV at ct;rw[d3,cl]at ct;have g0:G g:=by
  obtain⟨_,h2,i7,_,b4,_,dr,b5⟩:=bn;injection b4 with b4 _ _;have bR:xZ e.l≠[]:=λhJ=>by have C:=bi e.l;rw[hJ]at C;simp at C;omega
  have be:=(b5 bR).1;rw[<-b4]at be;injection be with be;injection be with be;rw[be];exact dr bR
 have f5:=f.far c5 (λe=>e) (λe=>e) (λ_ _ _ e=>e);have hg:=ni E b2 e1 G e d5 _ f5;have hA:=f.lt;have e0:=f.tgl;rw[T]at hA e0;have hZ:g < q:=by rw[<-T];exact hC
 have e3:g≠E:=λhW=>f.tgr (hW ▸ g0);have h9:(2:Int)<=(c:Int):=by omega
 have h0:(c:Int)<=(d:Int):=by omega
 have kv:(0:Int) < (c:Int):=by omega
 have i3:(2:Int)<=(d:Int):=by omega
 have kg:0 < c:=by omega
 have i2:2<=c:=by omega
 have ih:¬d=2:=by omega
 have ks:2 < d:=by omega
 have c0:=λb (j:Row b G (c - 2) (Y (W ⟨g,o+2 * 3,O⟩) (c - 2) (d - 2)) (xZ (e.l.drop 2)))=>cr e.no e.col (Y (W ⟨g,o+2 * 3,O⟩) (c - 2) (d - 2)) (e.l.drop 2) G b (by rw[zZ,R];exact j) e8;have ei:=λb (j:Row b G (c - 2) (Y (W ⟨g,o+2 * 3,O⟩) (c - 2) (d - 2)) (xZ (e.l.drop 2))) (ba:Glob b)=>iF (Z (W ⟨E,0,O⟩)) ⟨_,rfl⟩ e.no e.col (W ⟨g,o,O⟩) c d (Y (W ⟨g,o+2 * 3,O⟩) (c - 2) (d - 2)) (e.l.drop 2) G c1 t b (by rw[zZ,R];exact j) (λt ho=>eg t (List.mem_of_mem_drop ho)) (by rw[zZ,R];omega) ba hS gd;have an:=wh (e.l.drop 2);obtain⟨h8,gl⟩:=sJ (e.l.drop 2);rw[gl]at an c0;simp only[show 2 * 3=6 from rfl]at c0 ei e4;have hD:((c - 2:Nat):Int)≠0:=by omega
 have kn:(((c - 2:Nat):Int)==0)=false:=by simpa using hD
 have kl:¬c - 2=0:=by omega
 obtain⟨hu,hL,hV,_⟩:=bv c6;obtain⟨hU,g6,gg,fr,fl,hf⟩:=zx6 c5 c6 f2 g1 hg e4;obtain⟨g7,hI,hY,ht,gx,da⟩:=zx6 ct c0 ei an ba T;obtain⟨hw,es,h3⟩:=zx3 hd e0 cl;have dn:=zD (θ b8 (θ bm b9));rw[R];unfold scV;rw[cl];clear c5 c6 f2 g1 hg e4 ct c0 ei an ba hd R e0 b8 bm b9 f5 f bn hc eg bR e8 gd fv eq gl d3 cl gb g0
 go_enter func203,ntmps203
 go_upto_region 1 with (fail)
 generalize (((w.alloc (J #[V I e.no,V I e.col,Y (W ⟨g,o,O⟩) c d] 220)).alloc (J #[V I 0,V I 0,U ⟨#[]⟩] 30)).alloc (J #[V I 0,U ⟨#[]⟩,V I 0,V I 0,U ⟨#[]⟩,Y O 0 0,Y O 0 0] 78))=i9 at *;clear T
 go_wp2_with fail
 refine fl.out.mono ?_;rintro b6 c3 ⟨⟨kc,rfl⟩,f8,bx⟩;rw[show q+1+1=q+2 by omega];have bs:Far (·=E) w c3:=(hU.out.mono (λ_ _ e=>e.elim)).trans bx;have he:Glob c3:=gx.out.far bs (λk i e=>by omega);have e2:=bx.heap g6.out (by omega);obtain⟨hz,hQ,hv,_⟩:=bv e2;have b8:=bs.at dn.out.1 e3;have bm:=bs.at dn.out.2.1 e3;have b9:=bs.at dn.out.2.2 e3;have f9:=g7.out c3 he;obtain⟨gr,hR,hx,hH⟩:=zx4 f9 f8 bs e2;have js:=bx.size;have hr:=zD (bx.heap gg.out (by omega));have hX:=zD (bx.heap fr.out (by omega));clear bs he e2 f9 f8 bx g7 fl g6 gg fr hu hL hV
 go_wp2_with fail
 refine gr.out.mono ?_;rintro b6 bD ⟨rfl,d6⟩;obtain⟨a,f4⟩:∃q,bD.heap.size=q:=⟨_,rfl⟩;have bb:Far xO c3 (bD.alloc (J #[V I x.k,V I x.n,U SX] 30)):=(Far.of_below d6 xO).alloc _;have C:(bD.alloc (J #[V I x.k,V I x.n,U SX] 30)).heap[a]? =W (J #[V I x.k,V I x.n,U SX] 30 (0,0)):=by rw[<-f4];exact af bD _
 have e6:(bD.alloc (J #[V I x.k,V I x.n,U SX] 30)).heap.size=a+1:=by rw[<-f4];exact Array.size_push ..
 have h7:=d6.size;have i1:=hw.out;have kb:q+3<=a:=by omega
 clear hz hQ hv b8 bm b9 gr d6
 go_upto_region 5 with (fail)
 generalize (bD.alloc (J #[V I x.k,V I x.n,U SX] 30))=H at *;have P:=bb.heap hH.out id;have bk:(λb=>b.cell? ⟨q,0,O⟩=W (V I e.no)/\b.cell? ⟨q,1,O⟩=W (V I e.col)/\b.cell? ⟨q,2,O⟩=W (Y (W ⟨g,o,O⟩) c d)) H.drew:=⟨ae P 0,ae P 1,ae P 2⟩;refine wp_region_noPanic ?_;refine ar (λb=>b.cell? ⟨q,0,O⟩=W (V I e.no)/\b.cell? ⟨q,1,O⟩=W (V I e.col)/\b.cell? ⟨q,2,O⟩=W (Y (W ⟨g,o,O⟩) c d)) [9] (by kernel_rfl) ?_;refine ay 10 (by kernel_rfl) (λ_ _ _ _ f=>f) bk 2 [0,1,2,3,4,5,6,7] _ _ (by kernel_rfl) ?_;iterate 8 (refine ax (v:=?_) ?_ ?_;rotate_left;·(intro hG C;(try dsimp only at C);(try obtain⟨hF,hB,hp⟩:=C);go_simp;try with_reducible rfl);(try go_frame))
 refine xT.done ?_;try dsimp only
 refine aq [8] ?_;refine aj rfl (λK l=>?_) xQ.nil
 go_simp
 have b1:Far xO H ((H.alloc (J #[V I 0,V I 0,Y O 0 0] 220)).drew):=((ξ _ H).alloc _).drew;refine l.out _ _ (λ_=>⟨b1.at (ae P 0) id,b1.at (ae P 1) id,b1.at (ae P 2) id⟩) ?_;clear l K
 (try go_frame)
 have b5:((H.alloc (J #[V I 0,V I 0,Y O 0 0] 220)).drew).heap[a+1]? =W (J #[V I 0,V I 0,Y O 0 0] 220 (0,0)):=by rw[<-e6];exact cq (af H _)
 have hM:((H.alloc (J #[V I 0,V I 0,Y O 0 0] 220)).drew).heap.size=a+2:=by rw[show a+2=H.heap.size+1 by rw[e6]];exact Array.size_push ..
 generalize ((H.alloc (J #[V I 0,V I 0,Y O 0 0] 220)).drew)=ga at *;obtain⟨ck,co,cf,c2,cm,c4⟩:=bv b5;obtain⟨S,u⟩:=xv b5 (V I e.no) (V I e.col) (Y (W ⟨g,o+6,O⟩) (c - 2) (d - 2));have a1:=(b1.mono (D':=(·=a+1)) (λ_ _ e=>e.elim)).trans u;have i0:=u.size;have hj:=a1.heap C (by omega);have fz:=a1.heap P (by omega);have g3:=a1.heap (bb.heap hr.out id) (by omega);have ft:=a1.heap (bb.heap hX.out id) (by omega);have hh:Far (·=E) w _:=hx.out.step (bb.step a1 (λk i e=>(by omega:False))) (λ_ _ e=>e.elim);have fG:=(hR.out.far bb (λe=>e) (λe=>e) (λ_ _ _ e=>e)).far a1 (by omega) (by omega) (λk i _ e=>by have:=es.out k i;omega);have gc:=zD (θ S (θ hj (θ fz (θ g3 (θ ft (θ hh fG))))));clear S u a1 hj fz g3 ft hh fG b5 b1 bk P C bb;refine aq [9] ?_;refine aj rfl (λK l=>?_) xQ.nil
 go_simp
 refine l.out _ _ (λf=>absurd (by simp) f) ?_;clear l K
 (try go_frame)
 refine aP (by kernel_rfl) (NoPanic.normal ?_) _;have gf:(((ga.setCell ⟨a+1,0,O⟩ (V I e.no)).setCell ⟨a+1,1,O⟩ (V I e.col)).setCell ⟨a+1,2,O⟩ (Y (W ⟨g,o+6,O⟩) (c - 2) (d - 2))).heap.size=a+2:=by simp[World.setCell,hM]
 clear ck co cf c2 cm c4;generalize (((ga.setCell ⟨a+1,0,O⟩ (V I e.no)).setCell ⟨a+1,1,O⟩ (V I e.col)).setCell ⟨a+1,2,O⟩ (Y (W ⟨g,o+6,O⟩) (c - 2) (d - 2)))=L at *;have N:Far xO L (L.alloc (J #[V I 0,U ⟨#[]⟩,V I 0,V I 0,U ⟨#[]⟩,Y O 0 0,Y O 0 0] 78)):=(ξ _ L).alloc _;have hn:(L.alloc (J #[V I 0,U ⟨#[]⟩,V I 0,V I 0,U ⟨#[]⟩,Y O 0 0,Y O 0 0] 78)).heap[a+2]? =W (J #[V I 0,U ⟨#[]⟩,V I 0,V I 0,U ⟨#[]⟩,Y O 0 0,Y O 0 0] 78 (0,0)):=by rw[<-gf];exact af L _
 have fR:(L.alloc (J #[V I 0,U ⟨#[]⟩,V I 0,V I 0,U ⟨#[]⟩,Y O 0 0,Y O 0 0] 78)).heap.size=a+3:=by rw[show a+3=L.heap.size+1 by rw[gf]];exact Array.size_push ..
 obtain⟨bw,p,cc,s,A,z,r⟩:=gc.out;have f0:=r.tgr;obtain⟨ex,df,c9,_⟩:=bv (N.heap bw id);have dp:=z.step N (λ_ _ e=>e.elim);have e7:=hI.out _ (hf.out.far dp (λk i _ e=>f0 (e ▸ i)));have an:=ht.out;obtain⟨f3,hy⟩:=zx2 e7 an;have e5:=zD (θ (N.heap bw id) (θ (N.heap p id) (θ (N.heap cc id) (θ (N.heap s id) (θ (N.heap A id) (θ dp (θ (r.far N (λe=>e) (λe=>e) (λ_ _ _ e=>e)) hn)))))));clear e7 an N hn bw p cc s A z r dp gc
 go_wp2_with fail
 refine f3.out.mono ?_;rintro b6 a6 ⟨rfl,hm⟩;have F:Far xO (L.alloc (J #[V I 0,U ⟨#[]⟩,V I 0,V I 0,U ⟨#[]⟩,Y O 0 0,Y O 0 0] 78)) a6:=Far.of_below hm xO;have hP:=F.size;rw[fR]at hP;obtain⟨bw,p,cc,s,A,z,r,m⟩:=e5.out;have ch:=z.step F (λ_ _ e=>e.elim);have gk:=hY.out a6 (hf.out.far ch (λk i _ e=>f0 (e ▸ i))) (gx.out.far ch (λk i e=>by omega));clear ex df c9;obtain⟨ex,df,c9,_⟩:=bv (F.heap bw id);obtain⟨hE,hT,hq,_⟩:=bv (F.heap cc id);have an:=hy.out;have e9:=zD gk;have f7:=zD (θ (F.heap p id) (θ (F.heap s id) (θ (F.heap A id) (θ ch (θ (r.far F (λe=>e) (λe=>e) (λ_ _ _ e=>e)) (F.heap m id))))));clear gk F hm bw p cc s A z r m ch e5 f3 fR;generalize (L.alloc (J #[V I 0,U ⟨#[]⟩,V I 0,V I 0,U ⟨#[]⟩,Y O 0 0,Y O 0 0] 78))=ka at *
 go_wp2_with fail
 refine e9.out.mono ?_;rintro b6 ha ⟨⟨dc,rfl,d2⟩,f1⟩;obtain⟨ao,ac,a4,a5,a2,a0,ad,av,ab,al,X,rfl⟩:=d2.form;have d0:Far xO a6 ha:=Far.of_below f1 xO;obtain⟨p,s,A,z,r,m⟩:=f7.out;have en:=d0.heap m id;obtain⟨ck,co,cf,f6,ge,g8,fs,c2,cm,c4,fn,hl,hi,hk⟩:=bd en;obtain⟨S,u⟩:=aG en (V I ao) (U ac) (V I a4) (V I a5) (U a2) (Y a0 ad av) (Y ab al X);have y:=(d0.mono (D':=(·=a+2)) (λ_ _ e=>e.elim)).trans u;have b3:=xS.far u (λk (i:a6.heap.size<=k) _ e=>by omega) _ _ d2;have ds:=zD (θ (y.heap p (by omega)) (θ (y.heap s (by omega)) (θ (y.heap A (by omega)) (θ (z.step y (λk i e=>by have:=da.out;omega)) (θ (r.far y (by omega) (by omega) (λk i _ e=>by have:=es.out k i;omega)) (θ S b3))))));clear p s A z r m en S u y b3 d2 d0 f1 f7 e9 ex df c9 hE hT hq
 go_upto_region 16 with (fail)
 clear ck co cf f6 ge g8 fs c2 cm c4 fn hl hi hk;obtain⟨cb,g2⟩:∃b,(((((((ha.setCell ⟨a+2,0,O⟩ (V I ao)).setCell ⟨a+2,1,O⟩ (U ac)).setCell ⟨a+2,2,O⟩ (V I a4)).setCell ⟨a+2,3,O⟩ (V I a5)).setCell ⟨a+2,4,O⟩ (U a2)).setCell ⟨a+2,5,O⟩ (Y a0 ad av)).setCell ⟨a+2,6,O⟩ (Y ab al X))=b:=⟨_,rfl⟩;rw[g2]at ds ⊢;clear g2;obtain⟨p,s,A,z,r,m,b3⟩:=ds.out;have bk:(λb=>b.cell? ⟨a,0,O⟩=W (V I x.k)/\b.cell? ⟨a,1,O⟩=W (V I x.n)/\b.cell? ⟨a,2,O⟩=W (U SX)/\b.cell? ⟨a+2,0,O⟩=W (V I ao)/\b.cell? ⟨a+2,1,O⟩=W (U ac)/\b.cell? ⟨a+2,2,O⟩=W (V I a4)/\b.cell? ⟨a+2,3,O⟩=W (V I a5)/\b.cell? ⟨a+2,4,O⟩=W (U a2)/\b.cell? ⟨a+2,5,O⟩=W (Y a0 ad av)/\b.cell? ⟨a+2,6,O⟩=W (Y ab al X)) cb.drew:=⟨ae p 0,ae p 1,ae p 2,ae m 0,ae m 1,ae m 2,ae m 3,ae m 4,ae m 5,ae m 6⟩;have b0:Far xO cb cb.drew:=(ξ _ cb).drew;obtain⟨kd,i4,h4,u0,u1,u2⟩:=bv (b0.heap s id);obtain⟨S,u⟩:=xv (b0.heap s id) (V I x.k) (V I x.n) (U SX);have db:=u.heap (b0.heap A id) (by omega);obtain⟨ck,co,cf,f6,ge,g8,fs,c2,cm,c4,fn,hl,hi,hk⟩:=bd db;obtain⟨hb,cv⟩:=aG db (V I ao) (U ac) (V I a4) (V I a5) (U a2) (Y a0 ad av) (Y ab al X);have d4:∀(b er:World) (D:Nat->Prop),Far D b er->¬D a->¬D (a+2)->(λb:World=>b.cell? ⟨a,0,O⟩=W (V I x.k)/\b.cell? ⟨a,1,O⟩=W (V I x.n)/\b.cell? ⟨a,2,O⟩=W (U SX)/\b.cell? ⟨a+2,0,O⟩=W (V I ao)/\b.cell? ⟨a+2,1,O⟩=W (U ac)/\b.cell? ⟨a+2,2,O⟩=W (V I a4)/\b.cell? ⟨a+2,3,O⟩=W (V I a5)/\b.cell? ⟨a+2,4,O⟩=W (U a2)/\b.cell? ⟨a+2,5,O⟩=W (Y a0 ad av)/\b.cell? ⟨a+2,6,O⟩=W (Y ab al X)) b->(λb:World=>b.cell? ⟨a,0,O⟩=W (V I x.k)/\b.cell? ⟨a,1,O⟩=W (V I x.n)/\b.cell? ⟨a,2,O⟩=W (U SX)/\b.cell? ⟨a+2,0,O⟩=W (V I ao)/\b.cell? ⟨a+2,1,O⟩=W (U ac)/\b.cell? ⟨a+2,2,O⟩=W (V I a4)/\b.cell? ⟨a+2,3,O⟩=W (V I a5)/\b.cell? ⟨a+2,4,O⟩=W (U a2)/\b.cell? ⟨a+2,5,O⟩=W (Y a0 ad av)/\b.cell? ⟨a+2,6,O⟩=W (Y ab al X)) er:=λb er D j a3 M f=>⟨j.at f.1 a3,j.at f.2.1 a3,j.at f.2.2.1 a3,j.at f.2.2.2.1 M,j.at f.2.2.2.2.1 M,j.at f.2.2.2.2.2.1 M,j.at f.2.2.2.2.2.2.1 M,j.at f.2.2.2.2.2.2.2.1 M,j.at f.2.2.2.2.2.2.2.2.1 M,j.at f.2.2.2.2.2.2.2.2.2 M⟩;have dv:=d4 _ _ _ u (by omega) (by omega) bk;have g5:=d4 _ _ _ cv (by omega) (by omega) dv;obtain⟨hN,g4⟩:=zx2 dv g5;clear d4 dv g5;have y:=((b0.mono (D':=λk=>k=q+1\/k=q+2) (λ_ _ e=>e.elim)).trans (u.mono (λ_ _ e=>.inl e))).trans (cv.mono (λ_ _ e=>.inr e));have ca:=zD (θ (cv.heap S (by omega)) (θ hb (θ (xS.far y (λk (i:a6.heap.size<=k) _ e=>by omega) _ _ b3) (θ (r.far y (by omega) (by omega) (λk i _ e=>by have:=es.out k i;omega)) (z.step y (λk i e=>by have:=da.out;omega))))));clear p s A z r m b3 b0 S u db hb cv y ds;refine wp_region_noPanic ?_;refine ar (λb=>b.cell? ⟨a,0,O⟩=W (V I x.k)/\b.cell? ⟨a,1,O⟩=W (V I x.n)/\b.cell? ⟨a,2,O⟩=W (U SX)/\b.cell? ⟨a+2,0,O⟩=W (V I ao)/\b.cell? ⟨a+2,1,O⟩=W (U ac)/\b.cell? ⟨a+2,2,O⟩=W (V I a4)/\b.cell? ⟨a+2,3,O⟩=W (V I a5)/\b.cell? ⟨a+2,4,O⟩=W (U a2)/\b.cell? ⟨a+2,5,O⟩=W (Y a0 ad av)/\b.cell? ⟨a+2,6,O⟩=W (Y ab al X)) [] (by kernel_rfl) ?_;refine ay 10 (by kernel_rfl) (λ_ _ _ _ f=>f) bk 3 [0,1,2] _ _ (by kernel_rfl) ?_;iterate 3 (refine ax (v:=?_) ?_ ?_;rotate_left;·(intro hG C;(try dsimp only at C);(try obtain⟨hF,hB,hp,kf,h5,kr,i8,j9,i5,ky⟩:=C);go_simp;try with_reducible rfl);(try go_frame))
 refine xT.done ?_;try dsimp only
 clear bk;generalize cb.drew=kt at *;refine aq [3] ?_;refine aj rfl (λK l=>?_) xQ.nil
 go_simp
 refine l.out _ _ (λ_=>hN.out) ?_;clear l K
 (try go_frame)
 refine aq [4] ?_;refine aj rfl (λK l=>?_) xQ.nil
 go_simp
 refine l.out _ _ (λ_=>g4.out) ?_;clear l K
 (try go_frame)
 refine aq [5] ?_;refine aj rfl (λK l=>?_) xQ.nil
 go_simp
 refine l.out _ _ (λ_=>g4.out) ?_;clear l K
 (try go_frame)
 refine aP (by kernel_rfl) (NoPanic.normal ?_) _
 go_wp2_with fail
 exact bodyPost_ret (j1 results203 _ (q+1) (q+2) _ _ _ _ _ ca.out.1 ca.out.2.1 rfl rfl rfl) rfl ⟨⟨_,rfl,xS.mono (λk (i:a6.heap.size<=k) _=>by have:=da.out;show w.heap.size<=k;omega) _ _ ca.out.2.2.1⟩,ca.out.2.2.2.1,ca.out.2.2.2.2.mono (λk _ e=>.inl e)⟩
end
end Go.Proofs.YtbikgdhbiebhcaaGreatDoor
