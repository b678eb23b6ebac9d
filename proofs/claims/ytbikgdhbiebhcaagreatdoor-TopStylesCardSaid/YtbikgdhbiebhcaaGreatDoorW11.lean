/- Part 11. -/
import Derived.Test.YtbikgdhbiebhcaaGreatDoorW10
set_option linter.unusedVariables false
set_option linter.unusedSimpArgs false
set_option maxRecDepth 100000
set_option maxHeartbeats 2000000
open Go.Value renaming int -> V, string -> U, slice -> Y, pointer -> Z, func -> φ, agg -> γ, bool -> β
open Go.IntKind renaming i64 -> I
open Option renaming some -> W, none -> O
open Go.Obj renaming cells -> J
open Go.Ending renaming returned -> ρ
open Go.Proofs.Tryz renaming prog -> π
open Nat renaming le_refl -> η
open And renaming intro -> θ
open Go.RowKit.Below renaming refl -> ζ
namespace Go.Proofs.YtbikgdhbiebhcaaGreatDoor
open Go.RowKit Tryz
theorem eo(K:Int)(c:ByteArray)(d f:Option Addr)(i g b a:Nat)(w:World):Calls π 241 #[γ #[V I K,U c,V I 0,V I 0,U ⟨#[]⟩,Y d i b,Y f g a]] w λe w'=>e=ρ (β true)/\Below w.heap.size w w':=by
 obtain⟨p,m,k,o,l,j,n,_⟩:=bd (af w (J #[V I K,U c,V I 0,V I 0,U ⟨#[]⟩,Y d i b,Y f g a] 161));have q:=xC
 go_enter func241,ntmps241
 go_wp2_with fail
 go_ret
 exact⟨rfl,(ζ _ _).alloc (η _) _⟩
theorem gA(K i j:Int)(f k:ByteArray)(c l:Option Addr)(n m b g:Nat)(w:World)(a:List Tp.Sc)(q:NS)(A:n=a.length)(u:Row w q n (Y c n b) (xV a))(r:∀x∈a,x8 x=true/\x.s.length<=1000)(y:Glob w):Calls π 242 #[γ #[V I K,U k,V I i,V I j,U f,Y c n b,Y l m g]] w λe w'=>e=ρ (β true)/\Below w.heap.size w w':=by
 subst A;have d:Below w.heap.size w (w.alloc (J #[V I K,U k,V I i,V I j,U f,Y c a.length b,Y l m g] 161)):=(ζ _ _).alloc (η _) _;have z:=af w (J #[V I K,U k,V I i,V I j,U f,Y c a.length b,Y l m g] 161);obtain⟨P,L,G,N,H,F,M,_⟩:=bd z;have v:=u.below d;have s:=eE 273 (.inr rfl) a _ q _ v r (y.step d);obtain⟨t,p⟩:=zx2 s d;clear s u v r d y
 go_enter func242,ntmps242
 go_upto_region 2 with (fail)
 generalize (w.alloc (J #[V I K,U k,V I i,V I j,U f,Y c a.length b,Y l m g] 161))=D at *
 go_wp2_with fail
 refine t.out.mono ?_;rintro e E ⟨rfl,o⟩;have C:=zD (cR p.out (o.mono (η _)));clear o t p
 go_wp2_with fail
 go_ret
 exact⟨rfl,C.out⟩
theorem o4(K R T ab:Int)(F c:ByteArray)(d f:Option Addr)(ad g b a:Nat)(w:World)(m:∀k,Far xO w k->Calls π 241 #[γ #[V I K,U c,V I 0,V I 0,U ⟨#[]⟩,Y d 0 b,Y f g a]] k λe w'=>e=ρ (β true)/\Below k.heap.size k w'):
 Calls π 208 #[γ #[V I K,U c,V I 0,V I 0,U ⟨#[]⟩,Y d 0 b,Y f g a]] w λe w'=>e=ρ (β true)/\Below w.heap.size w w':=by
 have t:Far xO w (w.alloc (J #[V I K,U c,V I 0,V I 0,U ⟨#[]⟩,Y d 0 b,Y f g a] 161)):=(ξ _ w).alloc _;have n:=af w (J #[V I K,U c,V I 0,V I 0,U ⟨#[]⟩,Y d 0 b,Y f g a] 161);obtain⟨X,N,L,S,M,H,P,_⟩:=bd n;have p:=zD m;clear m
 go_enter func208,ntmps208
 go_upto_region 1 with (fail)
 have o:=zD t;generalize (w.alloc (J #[V I K,U c,V I 0,V I 0,U ⟨#[]⟩,Y d 0 b,Y f g a] 161))=i at *;have E:∀wx,Far xO i wx->wx.cell? ⟨w.heap.size,0,O⟩=W (V I K)/\wx.cell? ⟨w.heap.size,1,O⟩=W (U c)/\wx.cell? ⟨w.heap.size,2,O⟩=W (V I 0)/\wx.cell? ⟨w.heap.size,3,O⟩=W (V I 0)/\wx.cell? ⟨w.heap.size,4,O⟩=W (U ⟨#[]⟩)/\wx.cell? ⟨w.heap.size,5,O⟩=W (Y d 0 b)/\wx.cell? ⟨w.heap.size,6,O⟩=W (Y f g a):=λwx y=>by obtain⟨q,u,D,v,z,x,s,_⟩:=bd (y.heap n id);exact⟨q,u,D,v,z,x,s⟩
 go_region_held3 (λw'=>w'.cell? ⟨w.heap.size,0,O⟩=W (V I K)/\w'.cell? ⟨w.heap.size,1,O⟩=W (U c)/\w'.cell? ⟨w.heap.size,2,O⟩=W (V I 0)/\w'.cell? ⟨w.heap.size,3,O⟩=W (V I 0)/\w'.cell? ⟨w.heap.size,4,O⟩=W (U ⟨#[]⟩)/\w'.cell? ⟨w.heap.size,5,O⟩=W (Y d 0 b)/\w'.cell? ⟨w.heap.size,6,O⟩=W (Y f g a)) (exact E _ (by repeat (first|exact ξ _ _|assumption|refine Far.drew ?_|refine Far.alloc ?_ _|refine Far.drewN ?_ _))) (first|(go_at_call 241;refine(p.out i.drew (o.out.trans (by repeat (first|exact ξ _ _|assumption|refine Far.drew ?_|refine Far.alloc ?_ _|refine Far.drewN ?_ _)))).mono ?_;rintro e l ⟨rfl,r⟩;have G:Far xO i l:=(show Far xO i i.drew by repeat (first|exact ξ _ _|assumption|refine Far.drew ?_|refine Far.alloc ?_ _|refine Far.drewN ?_ _)).below r)|(go_at_call 240;refine(a7 240 (.inr rfl) _ 2 (by omega) _ (by intro j ac;have A:j=0\/j=1:=(by omega);rcases A with rfl|rfl<;>exact aY rfl rfl)).mono ?_;rintro e al ⟨rfl,rfl⟩))
 have C:Far xO i (l.alloc (J #[β true,β true] 4)):=by repeat (first|exact ξ _ _|assumption|refine Far.drew ?_|refine Far.alloc ?_ _|refine Far.drewN ?_ _)
 go_wp2_with fail
 go_ret
 exact⟨rfl,(o.out.trans C).to_below (η _) (λ_ _ e=>e)⟩
theorem o6(K P S ab:Int)(E a:ByteArray)(d f:Option Addr)(al ad c b:Nat)(w:World)(l:∀i,Far xO w i->Calls π 241 #[γ #[V I K,U a,V I 0,V I 0,U ⟨#[]⟩,Y d 0 c,Y f 0 b]] i λe w'=>e=ρ (β true)/\Below i.heap.size i w')(T:a.toList.isEmpty=false):
 Calls π 210 #[γ #[V I K,U a,V I 0,V I 0,U ⟨#[]⟩,Y d 0 c,Y f 0 b]] w λe w'=>e=ρ (β true)/\Below w.heap.size w w':=by
 have s:Far xO w (w.alloc (J #[V I K,U a,V I 0,V I 0,U ⟨#[]⟩,Y d 0 c,Y f 0 b] 161)):=(ξ _ w).alloc _;have m:=af w (J #[V I K,U a,V I 0,V I 0,U ⟨#[]⟩,Y d 0 c,Y f 0 b] 161);obtain⟨X,M,H,R,L,G,N,_⟩:=bd m;have o:=zD l;clear l
 go_enter func210,ntmps210
 go_upto_region 1 with (fail)
 have n:=zD s;generalize (w.alloc (J #[V I K,U a,V I 0,V I 0,U ⟨#[]⟩,Y d 0 c,Y f 0 b] 161))=g at *;have D:∀wx,Far xO g wx->wx.cell? ⟨w.heap.size,0,O⟩=W (V I K)/\wx.cell? ⟨w.heap.size,1,O⟩=W (U a)/\wx.cell? ⟨w.heap.size,2,O⟩=W (V I 0)/\wx.cell? ⟨w.heap.size,3,O⟩=W (V I 0)/\wx.cell? ⟨w.heap.size,4,O⟩=W (U ⟨#[]⟩)/\wx.cell? ⟨w.heap.size,5,O⟩=W (Y d 0 c)/\wx.cell? ⟨w.heap.size,6,O⟩=W (Y f 0 b):=λwx x=>by obtain⟨p,t,C,u,y,v,r,_⟩:=bd (x.heap m id);exact⟨p,t,C,u,y,v,r⟩
 go_region_held3 (λw'=>w'.cell? ⟨w.heap.size,0,O⟩=W (V I K)/\w'.cell? ⟨w.heap.size,1,O⟩=W (U a)/\w'.cell? ⟨w.heap.size,2,O⟩=W (V I 0)/\w'.cell? ⟨w.heap.size,3,O⟩=W (V I 0)/\w'.cell? ⟨w.heap.size,4,O⟩=W (U ⟨#[]⟩)/\w'.cell? ⟨w.heap.size,5,O⟩=W (Y d 0 c)/\w'.cell? ⟨w.heap.size,6,O⟩=W (Y f 0 b)) (exact D _ (by repeat (first|exact ξ _ _|assumption|refine Far.drew ?_|refine Far.alloc ?_ _|refine Far.drewN ?_ _))) (first|(go_at_call 241;refine(o.out g.drew (n.out.trans (by repeat (first|exact ξ _ _|assumption|refine Far.drew ?_|refine Far.alloc ?_ _|refine Far.drewN ?_ _)))).mono ?_;rintro e k ⟨rfl,q⟩;have F:Far xO g k:=(show Far xO g g.drew by repeat (first|exact ξ _ _|assumption|refine Far.drew ?_|refine Far.alloc ?_ _|refine Far.drewN ?_ _)).below q)|(go_at_call 240;refine(a7 240 (.inr rfl) _ 4 (by omega) _ (by intro j ac;have z:j=0\/j=1\/j=2\/j=3:=(by omega);rcases z with rfl|rfl|rfl|rfl<;>exact aY rfl rfl)).mono ?_;rintro e an ⟨rfl,rfl⟩))
 have A:Far xO g (k.alloc (J #[β true,β true,β true,β true] 4)):=by repeat (first|exact ξ _ _|assumption|refine Far.drew ?_|refine Far.alloc ?_ _|refine Far.drewN ?_ _)
 go_wp2_with fail
 go_ret
 exact⟨rfl,(n.out.trans A).to_below (η _) (λ_ _ e=>e)⟩
theorem o9(K ac al ao:Int)(M g:ByteArray)(i k:Option Addr)(a2 a0 f d:Nat)(w:World)(a:Nat)(n:∀b,Far xO w b->Calls π 241 #[γ #[V I K,U g,V I 0,V I 0,U ⟨#[]⟩,Y i a f,Y k a d]] b λe w'=>e=ρ (β true)/\Below b.heap.size b w')(p:∀b,Far xO w b->Calls π 242 #[γ #[V I K,U g,V I 0,V I 0,U ⟨#[]⟩,Y i a f,Y k a d]] b λe w'=>e=ρ (β true)/\Below b.heap.size b w')(av:∀b,(binOp .eql 3 (V I (a:Int)) (V I (a:Int))).run π b=.ok (β true) b):
 Calls π 209 #[γ #[V I K,U g,V I 0,V I 0,U ⟨#[]⟩,Y i a f,Y k a d]] w λe w'=>e=ρ (β true)/\Below w.heap.size w w':=by
 have x:Far xO w (w.alloc (J #[V I K,U g,V I 0,V I 0,U ⟨#[]⟩,Y i a f,Y k a d] 161)):=(ξ _ w).alloc _;have o:=af w (J #[V I K,U g,V I 0,V I 0,U ⟨#[]⟩,Y i a f,Y k a d] 161);obtain⟨an,T,R,ad,S,P,X,_⟩:=bd o;obtain⟨r,t⟩:=zx2 n p;clear n p
 go_enter func209,ntmps209
 go_upto_region 1 with (fail)
 have m:=zD x;generalize (w.alloc (J #[V I K,U g,V I 0,V I 0,U ⟨#[]⟩,Y i a f,Y k a d] 161))=c at *;have L:∀wx,Far xO c wx->wx.cell? ⟨w.heap.size,0,O⟩=W (V I K)/\wx.cell? ⟨w.heap.size,1,O⟩=W (U g)/\wx.cell? ⟨w.heap.size,2,O⟩=W (V I 0)/\wx.cell? ⟨w.heap.size,3,O⟩=W (V I 0)/\wx.cell? ⟨w.heap.size,4,O⟩=W (U ⟨#[]⟩)/\wx.cell? ⟨w.heap.size,5,O⟩=W (Y i a f)/\wx.cell? ⟨w.heap.size,6,O⟩=W (Y k a d):=λwx C=>by obtain⟨s,y,H,z,D,A,v,_⟩:=bd (C.heap o id);exact⟨s,y,H,z,D,A,v⟩
 go_region_held3 (λw'=>w'.cell? ⟨w.heap.size,0,O⟩=W (V I K)/\w'.cell? ⟨w.heap.size,1,O⟩=W (U g)/\w'.cell? ⟨w.heap.size,2,O⟩=W (V I 0)/\w'.cell? ⟨w.heap.size,3,O⟩=W (V I 0)/\w'.cell? ⟨w.heap.size,4,O⟩=W (U ⟨#[]⟩)/\w'.cell? ⟨w.heap.size,5,O⟩=W (Y i a f)/\w'.cell? ⟨w.heap.size,6,O⟩=W (Y k a d)) (exact L _ (by repeat (first|exact ξ _ _|assumption|refine Far.drew ?_|refine Far.alloc ?_ _|refine Far.drewN ?_ _))) (first|(go_at_call 241;refine(r.out c.drew (m.out.trans (by repeat (first|exact ξ _ _|assumption|refine Far.drew ?_|refine Far.alloc ?_ _|refine Far.drewN ?_ _)))).mono ?_;rintro e l ⟨rfl,u⟩;have N:Far xO c l:=(show Far xO c c.drew by repeat (first|exact ξ _ _|assumption|refine Far.drew ?_|refine Far.alloc ?_ _|refine Far.drewN ?_ _)).below u)|(go_at_call 242;refine(t.out l (m.out.trans (by repeat (first|exact ξ _ _|assumption|refine Far.drew ?_|refine Far.alloc ?_ _|refine Far.drewN ?_ _)))).mono ?_;rintro e q ⟨rfl,E⟩;have ab:Far xO c q:=(show Far xO c l by repeat (first|exact ξ _ _|assumption|refine Far.drew ?_|refine Far.alloc ?_ _|refine Far.drewN ?_ _)).below E)|(go_at_call 240;refine(a7 240 (.inr rfl) _ 3 (by omega) _ (by intro j a1;have F:j=0\/j=1\/j=2:=(by omega);rcases F with rfl|rfl|rfl<;>exact aY rfl rfl)).mono ?_;rintro e a3 ⟨rfl,rfl⟩))
 have G:Far xO c (q.alloc (J #[β true,β true,β true] 4)):=by repeat (first|exact ξ _ _|assumption|refine Far.drew ?_|refine Far.alloc ?_ _|refine Far.drewN ?_ _)
 go_wp2_with fail
 go_ret
 exact⟨rfl,(m.out.trans G).to_below (η _) (λ_ _ e=>e)⟩
theorem uV(K g i:Int)(c b:ByteArray)(l m:Option Addr)(o n f d q:Nat)(w:World)(r:(K=0/\q=207)\/(K=1/\q=208)\/(K=2/\q=209)\/(K=3/\q=210))(ba:b.toList=[])(S:∀a,Far xO w a->Calls π q #[γ #[V I K,U b,V I g,V I i,U c,Y l o f,Y m n d]] a λe w'=>e=ρ (β true)/\Below a.heap.size a w'):
 Calls π 159 #[γ #[V I K,U b,V I g,V I i,U c,Y l o f,Y m n d]] w λe w'=>e=ρ (β true)/\Below w.heap.size w w':=by
 have G:Far xO w ((w.alloc (J #[V I K,U b,V I g,V I i,U c,Y l o f,Y m n d] 161)).alloc (J #[φ (.func 207) #[] #[],φ (.func 208) #[] #[],φ (.func 209) #[] #[],φ (.func 210) #[] #[]] 378)):=((ξ _ w).alloc _).alloc _;have E:=aa (J #[φ (.func 207) #[] #[],φ (.func 208) #[] #[],φ (.func 209) #[] #[],φ (.func 210) #[] #[]] 378) (af w (J #[V I K,U b,V I g,V I i,U c,Y l o f,Y m n d] 161));have D:=ah (w.alloc (J #[V I K,U b,V I g,V I i,U c,Y l o f,Y m n d] 161)) (J #[φ (.func 207) #[] #[],φ (.func 208) #[] #[],φ (.func 209) #[] #[],φ (.func 210) #[] #[]] 378) (w.heap.size+1) (by simp);have F:=zD G;clear G;obtain⟨k,s,rfl,rfl⟩:∃k:Nat,k < 4/\K=(k:Int)/\q=207+k:=by
  rcases r with ⟨rfl,rfl⟩|⟨rfl,rfl⟩|⟨rfl,rfl⟩|⟨rfl,rfl⟩
  ·exact⟨0,by decide,rfl,rfl⟩
  ·exact⟨1,by decide,rfl,rfl⟩
  ·exact⟨2,by decide,rfl,rfl⟩
  ·exact⟨3,by decide,rfl,rfl⟩
 have al:(#[φ (.func 207) #[] #[],φ (.func 208) #[] #[],φ (.func 209) #[] #[],φ (.func 210) #[] #[]]:Array Value)[k]? =W (φ (.func (207+k)) #[] #[]):=by
  match k,s with
  |0,_=>rfl
  |1,_=>rfl
  |2,_=>rfl
  |3,_=>rfl
 have a9:∀args a,(callFunc (207+k) args).run π a=.ok (.enter (207+k) args) a:=by
  match k,s with
  |0,_=>intro args a;kernel_rfl
  |1,_=>intro args a;kernel_rfl
  |2,_=>intro args a;kernel_rfl
  |3,_=>intro args a;kernel_rfl
 have bb:(0:Int)<=(k:Int):=by omega
 have a5:(k:Int) < 4:=by omega
 have a6:k < 4:=s;have a0:=zD S;clear S
 go_enter func159,ntmps159
 go_upto_region 2 with (fail)
 generalize ((w.alloc (J #[V I (k:Int),U b,V I g,V I i,U c,Y l o f,Y m n d] 161)).alloc (J #[φ (.func 207) #[] #[],φ (.func 208) #[] #[],φ (.func 209) #[] #[],φ (.func 210) #[] #[]] 378))=p at *;have u:∀wx,Far xO p wx->wx.cell? ⟨w.heap.size,0,O⟩=W (V I (k:Int))/\wx.cell? ⟨w.heap.size,1,O⟩=W (U b)/\wx.cell? ⟨w.heap.size,2,O⟩=W (V I g)/\wx.cell? ⟨w.heap.size,3,O⟩=W (V I i)/\wx.cell? ⟨w.heap.size,4,O⟩=W (U c)/\wx.cell? ⟨w.heap.size,5,O⟩=W (Y l o f)/\wx.cell? ⟨w.heap.size,6,O⟩=W (Y m n d)/\wx.cell? ⟨w.heap.size+1,k,O⟩=W (φ (.func (207+k)) #[] #[]):=λwx r=>by obtain⟨ab,ao,a4,av,a2,a1,an,_⟩:=bd (r.heap E id);exact⟨ab,ao,a4,av,a2,a1,an,(ae (r.heap D id) k).trans al⟩
 have ad:=u _ ((ξ _ p).drew);have a3:=zD u;clear u E D;refine wp_region_noPanic ?_;refine ar (λw'=>w'.cell? ⟨w.heap.size,0,O⟩=W (V I (k:Int))/\w'.cell? ⟨w.heap.size,1,O⟩=W (U b)/\w'.cell? ⟨w.heap.size,2,O⟩=W (V I g)/\w'.cell? ⟨w.heap.size,3,O⟩=W (V I i)/\w'.cell? ⟨w.heap.size,4,O⟩=W (U c)/\w'.cell? ⟨w.heap.size,5,O⟩=W (Y l o f)/\w'.cell? ⟨w.heap.size,6,O⟩=W (Y m n d)/\w'.cell? ⟨w.heap.size+1,k,O⟩=W (φ (.func (207+k)) #[] #[])) [] (by kernel_rfl) ?_;refine aJ (by kernel_rfl) (λ_ _ _ _ t=>t) ad 15 [0,1,2,3,4,5,6,7,8,9,10,11,12,13,14,15,16] _ _ (by kernel_rfl) ?_;iterate 17 (refine ax (v:=?_) ?_ ?_;rotate_left;·(intro R j;(try dsimp only at j);(try obtain⟨P,z,A,C,M,N,T,L⟩:=j);go_simp;try with_reducible rfl);(try go_frame))
 refine xT.done ?_;try dsimp only
 refine aq [17] ?_;refine aj rfl (λK H=>?_) xQ.nil
 go_simp
 refine(a0.out p.drew (F.out.trans ((ξ _ p).drew))).mono ?_;rintro e X ⟨rfl,ac⟩;have x:Far xO p X:=(show Far xO p p.drew by repeat (first|exact ξ _ _|assumption|refine Far.drew ?_|refine Far.alloc ?_ _|refine Far.drewN ?_ _)).below ac;have y:=a3.out _ x;refine H.out _ _ (λ_=>y) ?_;clear H K
 (try go_frame)
 refine aJ (by kernel_rfl) (λ_ _ _ _ t=>t) y 0 [18,19,20,21,22,23,24,25,26,27,28,29,30,31] _ _ (by kernel_rfl) ?_;iterate 7 (refine ax (v:=?_) ?_ ?_;rotate_left;·(intro R j;(try dsimp only at j);(try obtain⟨P,z,A,C,M,N,T,L⟩:=j);go_simp;try with_reducible rfl);(try go_frame))
 iterate 4 (refine aB rfl (by simp only[zH,zI,zJ];rfl) (by kernel_rfl) ?_;(try go_frame))
 iterate 3 (refine ax (v:=?_) ?_ ?_;rotate_left;·(intro R j;(try dsimp only at j);(try obtain⟨P,z,A,C,M,N,T,L⟩:=j);go_simp;try with_reducible rfl);(try go_frame))
 refine xT.done ?_;try dsimp only
 refine aP (by kernel_rfl) (NoPanic.normal ?_) _
 go_wp2_with fail
 go_ret
 exact⟨rfl,(F.out.trans x).to_below (η _) (λ_ _ e=>e)⟩
theorem uU(K i j:Int)(d b:ByteArray)(m n:Option Addr)(p o g f q:Nat)(w:World)(t:(K=0/\q=207)\/(K=1/\q=208)\/(K=2/\q=209)\/(K=3/\q=210))(bs:b.toList.isEmpty=false)(L:∀a,Calls π 211 #[U b] a λe w'=>e=ρ (β true)/\Below a.heap.size a w')(ac:∀a,Far xO w a->Calls π q #[γ #[V I K,U b,V I i,V I j,U d,Y m p g,Y n o f]] a λe w'=>e=ρ (β true)/\Below a.heap.size a w'):
 Calls π 159 #[γ #[V I K,U b,V I i,V I j,U d,Y m p g,Y n o f]] w λe w'=>e=ρ (β true)/\Below w.heap.size w w':=by
 have H:Far xO w ((w.alloc (J #[V I K,U b,V I i,V I j,U d,Y m p g,Y n o f] 161)).alloc (J #[φ (.func 207) #[] #[],φ (.func 208) #[] #[],φ (.func 209) #[] #[],φ (.func 210) #[] #[]] 378)):=((ξ _ w).alloc _).alloc _;have F:=aa (J #[φ (.func 207) #[] #[],φ (.func 208) #[] #[],φ (.func 209) #[] #[],φ (.func 210) #[] #[]] 378) (af w (J #[V I K,U b,V I i,V I j,U d,Y m p g,Y n o f] 161));have E:=ah (w.alloc (J #[V I K,U b,V I i,V I j,U d,Y m p g,Y n o f] 161)) (J #[φ (.func 207) #[] #[],φ (.func 208) #[] #[],φ (.func 209) #[] #[],φ (.func 210) #[] #[]] 378) (w.heap.size+1) (by simp);have ba:=zD L;clear L;have G:=zD H;clear H;obtain⟨k,x,rfl,rfl⟩:∃k:Nat,k < 4/\K=(k:Int)/\q=207+k:=by
  rcases t with ⟨rfl,rfl⟩|⟨rfl,rfl⟩|⟨rfl,rfl⟩|⟨rfl,rfl⟩
  ·exact⟨0,by decide,rfl,rfl⟩
  ·exact⟨1,by decide,rfl,rfl⟩
  ·exact⟨2,by decide,rfl,rfl⟩
  ·exact⟨3,by decide,rfl,rfl⟩
 have a0:(#[φ (.func 207) #[] #[],φ (.func 208) #[] #[],φ (.func 209) #[] #[],φ (.func 210) #[] #[]]:Array Value)[k]? =W (φ (.func (207+k)) #[] #[]):=by
  match k,x with
  |0,_=>rfl
  |1,_=>rfl
  |2,_=>rfl
  |3,_=>rfl
 have bn:∀args a,(callFunc (207+k) args).run π a=.ok (.enter (207+k) args) a:=by
  match k,x with
  |0,_=>intro args a;kernel_rfl
  |1,_=>intro args a;kernel_rfl
  |2,_=>intro args a;kernel_rfl
  |3,_=>intro args a;kernel_rfl
 have bw:(0:Int)<=(k:Int):=by omega
 have bk:(k:Int) < 4:=by omega
 have bm:k < 4:=x;have a4:=zD ac;clear ac
 go_enter func159,ntmps159
 go_upto_region 2 with (fail)
 generalize ((w.alloc (J #[V I (k:Int),U b,V I i,V I j,U d,Y m p g,Y n o f] 161)).alloc (J #[φ (.func 207) #[] #[],φ (.func 208) #[] #[],φ (.func 209) #[] #[],φ (.func 210) #[] #[]] 378))=c at *;have y:∀wx,Far xO c wx->wx.cell? ⟨w.heap.size,0,O⟩=W (V I (k:Int))/\wx.cell? ⟨w.heap.size,1,O⟩=W (U b)/\wx.cell? ⟨w.heap.size,2,O⟩=W (V I i)/\wx.cell? ⟨w.heap.size,3,O⟩=W (V I j)/\wx.cell? ⟨w.heap.size,4,O⟩=W (U d)/\wx.cell? ⟨w.heap.size,5,O⟩=W (Y m p g)/\wx.cell? ⟨w.heap.size,6,O⟩=W (Y n o f)/\wx.cell? ⟨w.heap.size+1,k,O⟩=W (φ (.func (207+k)) #[] #[]):=λwx t=>by obtain⟨an,a2,be,a3,a6,a5,a1,_⟩:=bd (t.heap F id);exact⟨an,a2,be,a3,a6,a5,a1,(ae (t.heap E id) k).trans a0⟩
 have av:=y _ ((ξ _ c).drew);have T:=zD y;clear y F E;refine wp_region_noPanic ?_;refine ar (λw'=>w'.cell? ⟨w.heap.size,0,O⟩=W (V I (k:Int))/\w'.cell? ⟨w.heap.size,1,O⟩=W (U b)/\w'.cell? ⟨w.heap.size,2,O⟩=W (V I i)/\w'.cell? ⟨w.heap.size,3,O⟩=W (V I j)/\w'.cell? ⟨w.heap.size,4,O⟩=W (U d)/\w'.cell? ⟨w.heap.size,5,O⟩=W (Y m p g)/\w'.cell? ⟨w.heap.size,6,O⟩=W (Y n o f)/\w'.cell? ⟨w.heap.size+1,k,O⟩=W (φ (.func (207+k)) #[] #[])) [] (by kernel_rfl) ?_;refine aJ (by kernel_rfl) (λ_ _ _ _ s=>s) av 15 [0,1,2,3,4,5,6,7,8,9,10,11,12,13,14,15,16] _ _ (by kernel_rfl) ?_;iterate 17 (refine ax (v:=?_) ?_ ?_;rotate_left;·(intro ab l;(try dsimp only at l);(try obtain⟨X,A,C,D,N,P,ad,M⟩:=l);go_simp;try with_reducible rfl);(try go_frame))
 refine xT.done ?_;try dsimp only
 refine aq [17] ?_;refine aj rfl (λK r=>?_) xQ.nil
 go_simp
 refine(a4.out c.drew (G.out.trans ((ξ _ c).drew))).mono ?_;rintro e u ⟨rfl,ao⟩;have al:Far xO c u:=(show Far xO c c.drew by repeat (first|exact ξ _ _|assumption|refine Far.drew ?_|refine Far.alloc ?_ _|refine Far.drewN ?_ _)).below ao;have z:=T.out _ al;refine r.out _ _ (λ_=>z) ?_;clear r K
 (try go_frame)
 refine aJ (by kernel_rfl) (λ_ _ _ _ s=>s) z 4 [18,19,20,21,22,23,24,25,26,27] _ _ (by kernel_rfl) ?_;iterate 10 (refine ax (v:=?_) ?_ ?_;rotate_left;·(intro ab l;(try dsimp only at l);(try obtain⟨X,A,C,D,N,P,ad,M⟩:=l);go_simp;try with_reducible rfl);(try go_frame))
 refine xT.done ?_;try dsimp only
 refine aq [28] ?_;refine aj rfl (λK r=>?_) xQ.nil
 go_simp
 refine(ba.out u).mono ?_;rintro e bb ⟨rfl,a9⟩;have R:Far xO c bb:=(show Far xO c u by repeat (first|exact ξ _ _|assumption|refine Far.drew ?_|refine Far.alloc ?_ _|refine Far.drewN ?_ _)).below a9;have S:=T.out _ R;refine r.out _ _ (λ_=>S) ?_;clear r K
 (try go_frame)
 refine aJ (by kernel_rfl) (λ_ _ _ _ s=>s) S 0 [29,30,31] _ _ (by kernel_rfl) ?_;iterate 3 (refine ax (v:=?_) ?_ ?_;rotate_left;·(intro ab l;(try dsimp only at l);(try obtain⟨X,A,C,D,N,P,ad,M⟩:=l);go_simp;try with_reducible rfl);(try go_frame))
 refine xT.done ?_;try dsimp only
 refine aP (by kernel_rfl) (NoPanic.normal ?_) _
 go_wp2_with fail
 go_ret
 exact⟨rfl,(G.out.trans R).to_below (η _) (λ_ _ e=>e)⟩
theorem cZ(n:Tp.B):(⟨n.toArray⟩:ByteArray).toList.isEmpty=n.isEmpty:=by rw[ByteArray.toList_eq]
theorem kG(k:Int)(i:Tp.B)(x:Tp.Sc)(d:List Tp.Sc)(l:List Tp.Tree)(kv D:Value)(E:NS)(w:World)(F:Row w E d.length kv (xV d))(T:∃a al,D=Y a l.length al)(X:Glob w)(H:x8 x=true/\x.s.length<=1000)(R:∀G∈d,x8 G=true/\G.s.length<=1000)(an:i.length<=1000)(C:Tp.shaped ⟨k,i,x,d,l⟩=true):
 Calls π 159 #[γ #[V I k,xR i,V I x.k,V I x.n,xR x.s,kv,D]] w λe w'=>e=ρ (β true)/\Below w.heap.size w w':=by
 obtain⟨r,q,rfl,_⟩:=F.form;obtain⟨s,o,rfl⟩:=T;have N:∀b,Far xO w b->Glob b:=λb f=>X.far f (λ_ _ e=>e);unfold Tp.shaped at C;rw[zQ]at C;obtain⟨c,L⟩:=C;have p:∀j,((k=0/\j=207)\/(k=1/\j=208)\/(k=2/\j=209)\/(k=3/\j=210))->(∀b,Far xO w b->Calls π j #[γ #[V I k,xR i,V I x.k,V I x.n,xR x.s,Y r d.length q,Y s l.length o]] b λe w'=>e=ρ (β true)/\Below b.heap.size b w')->
  Calls π 159 #[γ #[V I k,xR i,V I x.k,V I x.n,xR x.s,Y r d.length q,Y s l.length o]] w λe w'=>e=ρ (β true)/\Below w.heap.size w w':=by
  intro j f M;cases A:i.isEmpty with
  |true=>
   obtain rfl:i=[]:=by simpa using A
   exact uV k x.k x.n ⟨x.s.toArray⟩ ⟨#[]⟩ r s d.length l.length q o j w f (by rw[ByteArray.toList_eq]) M
  |false=>
   rw[A,Bool.false_or]at L;refine uU k x.k x.n ⟨x.s.toArray⟩ ⟨i.toArray⟩ r s d.length l.length q o j w f (by rw[cZ];exact A) (λb=>io ⟨i.toArray⟩ (by show i.length<=_;omega) L b) M
 by_cases t:k=0
 ·rw[if_pos t]at c
  simp only[zQ,List.isEmpty_iff]at c;refine p 207 (.inl ⟨t,rfl⟩) (λb f=>?_);have n:d.length=0:=by rw[c.1.2];rfl
  have u:l.length=0:=by rw[c.2];rfl
  rw[n,u];exact o7 _ _ _ 0 _ _ _ _ 0 0 _ _ b (λg m=>iW x H.1 H.2 g (N g (f.trans m)))
 ·rw[if_neg t]at c
  by_cases z:k=1
  ·rw[if_pos z]at c
   simp only[zQ,List.isEmpty_iff,decide_eq_true_eq]at c;refine p 208 (.inr (.inl ⟨z,rfl⟩)) (λb f=>?_);have n:d.length=0:=by rw[c.2];rfl
   rw[n,c.1];exact o4 _ 0 0 0 ⟨#[]⟩ _ _ _ 0 _ _ _ b (λg m=>eo _ _ _ _ _ _ _ _ g)
  ·rw[if_neg z]at c
   by_cases v:k=2
   ·rw[if_pos v]at c
    simp only[zQ,List.isEmpty_iff,decide_eq_true_eq,beq_iff_eq]at c;obtain⟨⟨y,ac⟩,_⟩:=c;refine p 209 (.inr (.inr (.inl ⟨v,rfl⟩))) (λb f=>?_);rw[y,<-ac];exact o9 _ 0 0 0 ⟨#[]⟩ _ _ _ 0 0 _ _ b _ (λg m=>eo _ _ _ _ _ _ _ _ g) (λg m=>gA _ _ _ _ _ _ _ _ _ _ _ g d E rfl (F.far (f.trans m) (λ_ _ _ e=>e)) R (N g (f.trans m))) (λb=>by simp[go_sem])
   ·rw[if_neg v]at c
    simp only[zQ,List.isEmpty_iff,decide_eq_true_eq,beq_iff_eq,Bool.not_eq_true']at c;obtain⟨⟨⟨⟨ab,y⟩,S⟩,ad⟩,P⟩:=c;refine p 210 (.inr (.inr (.inr ⟨ab,rfl⟩))) (λb f=>?_);have n:d.length=0:=by rw[S];rfl
    have u:l.length=0:=by rw[ad];rfl
    rw[n,u,y];exact o6 _ 0 0 0 ⟨#[]⟩ _ _ _ 0 0 _ _ b (λg m=>eo _ _ _ _ _ _ _ _ g) (by rw[cZ];exact P)
theorem fh{a c:Tp.B}(b:xR a=xR c):a=c:=by
 unfold xR at b;injection b with b;injection b with b
 simpa using congrArg Array.toList b
def yf:List Tp.Nd->List (Value × Value)->List Value
 |x::r,p::s=>[V I x.k,V I x.x.k,V I x.x.n,xR x.x.s,p.1,p.2]++yf r s
 |_,_=>[]
theorem dN:∀(l:List Tp.Nd) (a:List (Value × Value)) (x:Tp.Nd) (p:Value × Value),a.length=l.length->yf (l++[x]) (a++[p])=yf l a++[V I x.k,V I x.x.k,V I x.x.n,xR x.x.s,p.1,p.2]
 | [],[],x,p,_=>rfl
 | [],q::s,x,p,h=>by simp at h
 |y::r,[],x,p,h=>by simp at h
 |y::r,q::s,x,p,h=>by
  have b:=dN r s x p (by simpa using h);rw[List.cons_append,List.cons_append];unfold yf;rw[b,List.append_assoc]
theorem eF(a:Tp.Nd->Tp.Nd)(c:∀x,(a x).k=x.k/\(a x).x=x.x)(b:Value):∀(l:List Tp.Nd) (d:List (Value × Value)) (i:Nat),d.length=l.length->i < l.length->(yf l d).set (i * 6+5) b=yf (l.modify i a) (d.modify i λq=>(q.1,b))
 | [],_,i,_,h=>by simp at h
 |y::r,[],i,h,_=>by simp at h
 |y::r,q::s,0,h,_=>by
  show _=yf (a y::r) ((q.1,b)::s);unfold yf;rw[(c y).1,(c y).2];simp
 |y::r,q::s,i+1,h,hi=>by
  show _=yf (y::r.modify i a) (q::s.modify i λq=>(q.1,b));unfold yf;rw[List.set_append,if_neg (by simp;omega),<-eF a c b r s i (by simpa using h) (by simpa using hi)];congr 2
  simp
  omega
theorem fM:∀(l:List Tp.Nd) (a:List (Value × Value)) (i:Nat) (x:Tp.Nd) (p:Value × Value),l[i]? =W x->a[i]? =W p->(yf l a)[i * 6+5]? =W p.2
 | [],_,i,x,p,h,_=>by simp at h
 |y::r,[],i,x,p,_,h=>by simp at h
 |y::r,q::s,0,x,p,h1,h2=>by
  simp at h1 h2
  subst h1 h2;rfl
 |y::r,q::s,i+1,x,p,h1,h2=>by
  unfold yf;rw[zV (by simp;omega),<-fM r s i x p (by simpa using h1) (by simpa using h2)];congr 1
  simp
  omega
def yO:List (Tp.B × Nat)->List (Value × Value)
 | []=>[]
 |p::r=>yO r++[(xR p.1,V I (p.2:Int))]
theorem dO:∀(b:List (Tp.B × Nat)) (p:Value × Value),p∈yO b->∃q∈b,p=(xR q.1,V I (q.2:Int))
 | [],p,a=>by simp[yO]at a
 |q::r,p,a=>by
  unfold yO at a;rcases List.mem_append.1 a with a|a
  ·obtain⟨e,d,c⟩:=dO r p a
   exact⟨e,List.mem_cons_of_mem _ d,c⟩
  ·exact⟨q,List.mem_cons_self ..,by simpa using a⟩
theorem fN:∀(b:List (Tp.B × Nat)) (q:Tp.B × Nat),q∈b->(xR q.1,Value.int I (q.2:Int))∈yO b
 | [],q,a=>by simp at a
 |p::r,q,a=>by
  unfold yO;rcases List.mem_cons.1 a with rfl|a
  ·exact List.mem_append_right _ (by simp)
  ·exact List.mem_append_left _ (fN r q a)
theorem oV{c:List (Tp.B × Nat)}{s:Tp.B}{i:Nat}(b:Tp.nameAt c s=W i):(s,i)∈c:=by
 unfold Tp.nameAt at b;obtain⟨p,a,rfl⟩:=zN.1 b;have e:=List.mem_of_find?_eq_some a;have d:=List.find?_some a;have f:p.1=s:=by simpa using d
 exact f ▸ e
theorem km:∀(d:List (Tp.B × Nat)),(d.map (·.1)).Nodup->∀(p q:Tp.B × Nat),p∈d->q∈d->p.1=q.1->p=q
 | [],_,p,q,h,_,_=>by simp at h
 |a::r,hn,p,q,c,b,e=>by
  rw[List.map_cons,List.nodup_cons]at hn;rcases List.mem_cons.1 c with rfl|c
  ·rcases List.mem_cons.1 b with rfl|b
   ·rfl
   ·exact absurd (List.mem_map.2 ⟨q,b,e.symm⟩) hn.1
  ·rcases List.mem_cons.1 b with f|b
   ·exact absurd (List.mem_map.2 ⟨p,c,by rw[e,f]⟩) hn.1
   ·exact km r hn.2 p q c b e
structure zh(w:World)(cb mb:Nat)(S:NS)(l:List Tp.Nd)(ns:List (Tp.B × Nat))(sa:Option Addr)(sn sc:Nat)(vs:List (Value × Value))(KG:NS):Prop where
 hd:w.heap[cb]? =W (J #[.int I 0,Y sa sn sc,.map (W mb)] 158 (0,0))
 row:w.ownsRow 0 185 6 (Value.slice sa sn sc) l.length (yf l vs)
 len:vs.length=l.length
 nds:∀(i:Nat) (x:Tp.Nd) (p:Value × Value),l[i]? =W x->vs[i]? =W p->Row w KG x.keys.length p.1 (xV x.keys)/\w.ownsRow 0 3 1 p.2 x.kids.length (xP x.kids)
 ownL:∀k,(Value.slice sa sn sc).ownBlock=W k->S k/\k≠cb/\k≠mb/\¬KG k
 ownK:∀(i:Nat) (p:Value × Value) (k:Nat),vs[i]? =W p->p.2.ownBlock=W k->S k/\k≠cb/\k≠mb/\¬KG k/\(Value.slice sa sn sc).ownBlock≠W k
 ownD:∀(i j:Nat) (p q:Value × Value) (k:Nat),i≠j->vs[i]? =W p->vs[j]? =W q->p.2.ownBlock=W k->q.2.ownBlock≠W k
 kg:∀k,KG k->S k/\k≠cb/\k≠mb
 map:xW π 9 w mb (yO ns)
 nd:(ns.map (·.1)).Nodup
 s:∀k,S k->k < w.heap.size
 scb:S cb
 smb:S mb
 ne:cb≠mb
def yL(w:World)(a f:Nat)(b:NS)(l:List Tp.Nd)(i:List (Tp.B × Nat)):Prop:=∃e c g d j,zh w a f b l i e c g d j
theorem zh.far{D d t:NS}{w w':World}{n m:Nat}{l:List Tp.Nd}{g:List (Tp.B × Nat)}{r:Option Addr}{q s:Nat}{j:List (Value × Value)}(a:zh w n m d l g r q s j t)(b:Far D w w')(c:∀k,d k->¬D k):zh w' n m d l g r q s j t:=by
 refine⟨b.heap a.hd (c _ a.scb),am a.row b (λk e=>c _ (a.ownL k e).1),a.len,λi x p y o=>?_,a.ownL,a.ownK,a.ownD,a.kg,a.map.far b (c _ a.smb),a.nd,λk f=>zK (a.s k f) b.size,a.scb,a.smb,a.ne⟩;obtain⟨v,u⟩:=a.nds i x p y o;exact⟨v.far b (λk f _=>c _ (a.kg k f).1),am u b (λk e=>c _ (a.ownK i p k o e).1)⟩
theorem yL.far{D a:NS}{w w':World}{c d:Nat}{l:List Tp.Nd}{e:List (Tp.B × Nat)}(b:yL w c d a l e)(f:Far D w w')(o:∀k,a k->¬D k):yL w' c d a l e:=by
 obtain⟨i,g,m,j,n,b⟩:=b;exact⟨i,g,m,j,n,b.far f o⟩
theorem yL.lt{b:NS}{w:World}{c d:Nat}{l:List Tp.Nd}{e:List (Tp.B × Nat)}(a:yL w c d b l e):∀k,b k->k < w.heap.size:=by
 obtain⟨g,f,j,i,m,a⟩:=a;exact a.s
theorem zh.sn{c k:NS}{w:World}{b f:Nat}{l:List Tp.Nd}{j:List (Tp.B × Nat)}{d:Option Addr}{a i:Nat}{e:List (Value × Value)}(g:zh w b f c l j d a i e k):a=l.length:=cz g.row
theorem zh.node{E M KK:NS}{w w5:World}{d H gg cap:Nat}{l:List Tp.Nd}{P:List (Tp.B × Nat)}{A:Option Addr}{z C:Nat}{m:List (Value × Value)}{x:Tp.Nd}{kv:Value}(b:zh w d H E l P A z C m M)(av:x.kids=[])
(r:Far (λk=>(Value.slice A z C).ownBlock=W k) w w5)(an:Row w5 KK x.keys.length kv (xV x.keys))(v:∀k,KK k->w.heap.size<=k/\k < w5.heap.size/\k≠gg)
(N:w5.ownsRow 0 185 6 (Y (W ⟨gg,0,O⟩) (l.length+1) cap) (l.length+1) (yf l m++[V I x.k,V I x.x.k,V I x.x.n,xR x.x.s,kv,Y O 0 0]))(G:(Value.slice A z C).ownBlock=W gg\/w.heap.size<=gg):
 zh (w5.setCell ⟨d,1,O⟩ (Y (W ⟨gg,0,O⟩) (l.length+1) cap)) d H (λk=>E k\/k=gg\/KK k) (l++[x]) P (W ⟨gg,0,O⟩) (l.length+1) cap (m++[(kv,Y O 0 0)]) (λk=>M k\/KK k)/\Far E w (w5.setCell ⟨d,1,O⟩ (Y (W ⟨gg,0,O⟩) (l.length+1) cap)):=by
 have n:Far (·=d) w5 (w5.setCell ⟨d,1,O⟩ (Y (W ⟨gg,0,O⟩) (l.length+1) cap)):=Far.setCell (D:=(·=d)) (ξ _ _) (p:=⟨d,1,O⟩) (λ_=>rfl) _;have a3:=b.s _ b.scb;have a2:=b.s _ b.smb;have T:(Value.slice A z C).ownBlock≠W d:=λe=>(b.ownL _ e).2.1 rfl;have L:gg≠d/\gg≠H:=by
  rcases G with e|e
  ·exact⟨(b.ownL _ e).2.1,(b.ownL _ e).2.2.1⟩
  ·omega
 have a0:∀k,M k->k≠gg:=λk a e=>by
  rcases G with f|f
  ·exact(b.ownL _ f).2.2.2 (e ▸ a)
  ·have:=b.s _ (b.kg k a).1;omega
 have ab:∀(i:Nat) (p:Value × Value) (k:Nat),m[i]? =W p->p.2.ownBlock=W k->k≠gg:=λi p k c e g=>by
  rcases G with f|f
  ·exact(b.ownK i p k c e).2.2.2.2 (g ▸ f)
  ·have:=b.s _ (b.ownK i p k c e).1;omega
 have a1:gg < w5.heap.size:=(N.lt gg rfl).2;have o:=b.len;have S:(Value.slice (W ⟨gg,0,O⟩) (l.length+1) cap).ownBlock=W gg:=rfl;refine⟨⟨ai (r.heap b.hd T) 1 _,?_,by simp[o],?_,?_,?_,?_,?_,(b.map.far r (λe=>(b.ownL _ e).2.2.1 rfl)).far n (λe=>b.ne e.symm),b.nd,?_,.inl b.scb,.inl b.smb,b.ne⟩,?_⟩
 ·rw[dN l m x _ o,zP]
  exact am N n (λk e b=>by injection e with e;exact L.1 (e.trans b))
 ·intro i al p s c
  rcases Nat.lt_or_ge i l.length with t|t
  ·rw[List.getElem?_append_left t]at s
   rw[List.getElem?_append_left (by omega)]at c;obtain⟨y,F⟩:=b.nds i al p s c;refine⟨((y.far r (λk a _ e=>(b.ownL k e).2.2.2 a)).far n (λk a _ e=>(b.kg k a).2.1 e)).mono (λ_ a _=>.inl a),am (am F r (λk e f=>(b.ownK i p k c e).2.2.2.2 f)) n (λk e f=>(b.ownK i p k c e).2.1 f)⟩
  ·have u:i=l.length:=by
    have:=(zM.1 s).1;simp at this
    omega
   subst u;rw[zV (η _),Nat.sub_self]at s;rw[zV (by omega),o,Nat.sub_self]at c;simp at s c
   subst s c;rw[av];refine⟨(an.far n (λk a _ e=>by have:=(v k a).1;omega)).mono (λ_ a _=>.inr a),World.ownsRow_nil _ _ _ _⟩
 ·intro k e
  rw[S]at e;injection e with e;subst e;exact⟨.inr (.inl rfl),L.1,L.2,λa=>by
   rcases a with a|a
   ·exact a0 _ a rfl
   ·exact(v _ a).2.2 rfl⟩
 ·intro i p k c e
  rcases Nat.lt_or_ge i l.length with t|t
  ·rw[List.getElem?_append_left (by omega)]at c
   obtain⟨y,F,ao,ad,_⟩:=b.ownK i p k c e;refine⟨.inl y,F,ao,λa=>?_,λg=>ab i p k c e (by rw[S]at g;injection g with g;exact g.symm)⟩;rcases a with a|a
   ·exact ad a
   ·have:=(v _ a).1;have:=b.s _ y;omega
  ·have u:i=l.length:=by
    have:=(zM.1 c).1;simp[o]at this
    omega
   subst u;rw[zV (by omega),o,Nat.sub_self]at c;simp at c
   subst c;simp[Value.ownBlock]at e
 ·intro i j p q k X c ac e g
  have R:∀(i:Nat) (p:Value × Value),(m++[(kv,Value.slice O 0 0)])[i]? =W p->p.2.ownBlock=W k->m[i]? =W p:=λi p c e=>by
   rcases Nat.lt_or_ge i l.length with t|t
   ·rwa [List.getElem?_append_left (by omega)]at c
   ·have u:i=l.length:=by
     have:=(zM.1 c).1;simp[o]at this
     omega
    subst u;rw[zV (by omega),o,Nat.sub_self]at c;simp at c
    subst c;simp[Value.ownBlock]at e
  exact b.ownD i j p q k X (R i p c e) (R j q ac g) e g
 ·intro k a
  rcases a with a|a
  ·exact⟨.inl (b.kg k a).1,(b.kg k a).2⟩
  ·have:=(v k a).1
   exact⟨.inr (.inr a),by omega,by omega⟩
 ·intro k a
  have:k < w5.heap.size:=by
   rcases a with a|rfl|a
   ·exact zK (b.s k a) r.size
   ·exact a1
   ·exact(v k a).2.1
  exact zK this n.size
 ·exact(r.mono (λk _ e=>(b.ownL k e).1)).step n (λk _ e=>e ▸ b.scb)
theorem Bf{α:Type}(c:α->α):∀(l:List α) (i j:Nat) (x:α),(l.modify i c)[j]? =W x->(j=i/\∃b,l[j]? =W b/\x=c b)\/(j≠i/\l[j]? =W x):=by
 intro l i j x a;rw[List.getElem?_modify]at a;by_cases e:i=j
 ·subst e
  left
  simp only[if_true]at a;obtain⟨b,f,d⟩:=zN.1 a;exact⟨rfl,b,f,d.symm⟩
 ·right
  simp only[e,if_false]at a;exact⟨λg=>e g.symm,by simpa using a⟩
theorem zh.kid{S KG:NS}{w w5:World}{cb mb lb at' j:Nat}{l:List Tp.Nd}{ns:List (Tp.B × Nat)}{sn sc:Nat}{vs:List (Value × Value)}{x:Tp.Nd}{p:Value × Value}{dv:Value}(h:zh w cb mb S l ns (W ⟨lb,0,O⟩) sn sc vs KG)(hx:l[at']? =W x)(hp:vs[at']? =W p)
(hf:Far (λk=>p.2.ownBlock=W k) w w5)(hown:w5.ownsRow 0 3 1 dv (x.kids.length+1) (xP (x.kids++[j])))(hat:∀k,dv.ownBlock=W k->p.2.ownBlock=W k\/w.heap.size<=k):
 zh (w5.setCell ⟨lb,at' * 6+5,O⟩ dv) cb mb (λk=>S k\/dv.ownBlock=W k) (Tp.addKid at' j l) ns (W ⟨lb,0,O⟩) sn sc (vs.modify at' λq=>(q.1,dv)) KG/\Far S w (w5.setCell ⟨lb,at' * 6+5,O⟩ dv):=by
 have hself:(Value.slice (W ⟨lb,0,O⟩) sn sc).ownBlock=W lb:=rfl;have hs:Far (·=lb) w5 (w5.setCell ⟨lb,at' * 6+5,O⟩ dv):=Far.setCell (D:=(·=lb)) (ξ _ _) (p:=⟨lb,at' * 6+5,O⟩) (λ_=>rfl) _;obtain⟨hl1,hl2,hl3,hl4⟩:=h.ownL lb hself;have hlt:=(zM.1 hx).1;have hpS:∀k,p.2.ownBlock=W k->S k/\k≠cb/\k≠mb/\¬KG k/\k≠lb:=λk e=>by
  obtain⟨a,b,c,d,e'⟩:=h.ownK at' p k hp e;exact⟨a,b,c,d,λe2=>e' (by rw[hself,e2])⟩
 have hdv:∀k,dv.ownBlock=W k->k≠cb/\k≠mb/\¬KG k/\k≠lb:=λk e=>by
  rcases hat k e with e'|e'
  ·exact(hpS k e').2
  ·have h1:=h.s _ h.scb
   have h2:=h.s _ h.smb;have h3:=h.s _ hl1;exact⟨by omega,by omega,λhk=>by have:=h.s _ (h.kg k hk).1;omega,by omega⟩
 have hdo:∀i q k,i≠at'->vs[i]? =W q->q.2.ownBlock=W k->dv.ownBlock≠W k:=λi q k hi hq e e2=>by
  rcases hat k e2 with e'|e'
  ·exact h.ownD i at' q p k hi hq hp e e'
  ·have:=h.s _ (h.ownK i q k hq e).1;omega
 have hrow5:=am h.row hf (λk e e'=>(hpS k e').2.2.2.2 (by rw[hself]at e;injection e with e;exact e.symm));refine⟨⟨hs.heap (hf.heap h.hd (λe=>(hpS _ e).2.1 rfl)) (λe=>hl2 e.symm),?_,by simp[Tp.addKid,h.len],?_,λk e=>?_,?_,?_,λk hk=>⟨.inl (h.kg k hk).1,(h.kg k hk).2⟩,(h.map.far hf (λe=>(hpS _ e).2.2.1 rfl)).far hs (λe=>hl3 e.symm),h.nd,?_,.inl h.scb,.inl h.smb,h.ne⟩,?_⟩
 ·unfold Tp.addKid
  rw[List.length_modify,<-eF (λx=>{ x with kids:=x.kids++[j] }) (λ_=>⟨rfl,rfl⟩) dv l vs at' h.len hlt];obtain rfl:=h.sn;exact aT hrow5 _ _
 ·intro i y q hy hq
  unfold Tp.addKid at hy;rcases Bf _ _ _ _ _ hy with ⟨rfl,y',hy',rfl⟩|⟨hi,hy⟩
  ·rcases Bf _ _ _ _ _ hq with ⟨_,q',hq',rfl⟩|⟨hi,_⟩
   ·rw[hx]at hy';injection hy' with hy';subst hy'
    rw[hp]at hq';injection hq' with hq';subst hq';obtain⟨h1,_⟩:=h.nds i x p hx hp;exact⟨(h1.far hf (λk hk _ e=>(hpS k e).2.2.2.1 hk)).far hs (λk hk _ e=>hl4 (e ▸ hk)),by rw[zP];exact am hown hs (λk e e'=>(hdv k e).2.2.2 e')⟩
   ·exact absurd rfl hi
  ·rcases Bf _ _ _ _ _ hq with ⟨e,_⟩|⟨_,hq⟩
   ·exact absurd e hi
   ·obtain⟨h1,h2⟩:=h.nds i y q hy hq
    exact⟨(h1.far hf (λk hk _ e=>(hpS k e).2.2.2.1 hk)).far hs (λk hk _ e=>hl4 (e ▸ hk)),am (am h2 hf (λk e e'=>h.ownD i at' q p k hi hq hp e e')) hs (λk e e'=>(h.ownK i q k hq e).2.2.2.2 (by rw[hself,e']))⟩
 ·rw[hself]at e;injection e with e;subst e
  exact⟨.inl hl1,hl2,hl3,hl4⟩
 ·intro i q k hq e
  rcases Bf _ _ _ _ _ hq with ⟨rfl,q',hq',rfl⟩|⟨hi,hq⟩
  ·exact⟨.inr e,(hdv k e).1,(hdv k e).2.1,(hdv k e).2.2.1,λe2=>(hdv k e).2.2.2 (by rw[hself]at e2;injection e2 with e2;exact e2.symm)⟩
  ·obtain⟨a,b⟩:=h.ownK i q k hq e
   exact⟨.inl a,b⟩
 ·intro i i' q q' k hii hq hq' e e2
  rcases Bf _ _ _ _ _ hq with ⟨rfl,y,hy,rfl⟩|⟨hi,hq⟩
  ·rcases Bf _ _ _ _ _ hq' with ⟨rfl,_⟩|⟨hi',hq'⟩
   ·exact hii rfl
   ·exact hdo i' q' k hi' hq' e2 e
  ·rcases Bf _ _ _ _ _ hq' with ⟨ei,y,hy,rfl⟩|⟨hi',hq'⟩
   ·exact hdo i q k hi hq e e2
   ·exact h.ownD i i' q q' k hii hq hq' e e2
 ·intro k hk
  refine zK (?_:k < w5.heap.size) hs.size;rcases hk with hk|hk
  ·exact zK (h.s k hk) hf.size
  ·exact(hown.lt k hk).2
 ·exact(hf.mono (λk _ e=>(hpS k e).1)).step hs (λk _ e=>e ▸ hl1)
theorem zh.name{m y:NS}{w w':World}{o d i:Nat}{s:Tp.B}{l:List Tp.Nd}{c:List (Tp.B × Nat)}{u:Option Addr}{t v:Nat}{n:List (Value × Value)}(a:zh w o d m l c u t v n y)(F:xW π 9 w' d (yO c++[(xR s,.int I (i:Int))]))(b:Far (·=d) w w')(D:∀p∈c,p.1≠s):zh w' o d m l ((s,i)::c) u t v n y:=by
 refine⟨b.heap a.hd a.ne,am a.row b (λk e g=>(a.ownL k e).2.2.1 g),a.len,λj x p E r=>?_,a.ownL,a.ownK,a.ownD,a.kg,F,?_,λk f=>zK (a.s k f) b.size,a.scb,a.smb,a.ne⟩
 ·obtain⟨C,z⟩:=a.nds j x p E r
  exact⟨C.far b (λk f _ e=>(a.kg k f).2.2 e),am z b (λk e g=>(a.ownK j p k r e).2.2.1 g)⟩
 ·rw[List.map_cons,List.nodup_cons]
  exact⟨λe=>by obtain⟨q,A,e⟩:=List.mem_map.1 e;exact D q A e,a.nd⟩
theorem mv{b:List (Tp.B × Nat)}{s:Tp.B}(a:Tp.nameAt b s=O):∀p∈b,p.1≠s:=by
 intro p c e;unfold Tp.nameAt at a;rw[Option.map_eq_none_iff,List.find?_eq_none]at a;exact a p c (by simp[e])
theorem kA(a:List (Tp.B × Nat))(s:Tp.B)(w:s.length<=1000)(k:Nat)(u:(a.map (·.1)).Nodup):∃(v:Int) (ok:Bool),(∀i,Tp.nameAt a s=W i->ok=true/\v=(i:Int))/\∀b,xW π 9 b k (yO a)->(Instr.lookup 156 (.map (W k)) (xR s) true).run π b=.ok (.tuple #[.int I v,.bool ok]) b/\(Instr.lookup 156 (.map (W k)) (xR s) false).run π b=.ok (.int I v) b:=by
 obtain⟨l,f⟩:=o3 ⟨s.toArray⟩ (by show s.length<=_;omega);cases t:Tp.nameAt a s with
 |some i=>
  refine⟨(i:Int),true,λj d=>by injection d with d;subst d;exact⟨rfl,rfl⟩,λb c=>?_⟩;have n:=oV t;have r:∀p∈yO a,p.1=xR s->p.2=Value.int I (i:Int):=λp m e=>by
   obtain⟨q,g,rfl⟩:=dO a p m;have:=km a u q (s,i) g n (fh e);rw[this]
  exact⟨c.look_in lG underlying156 (gC _) (xR s) f true _ (fN a _ n) r,c.look_in lG underlying156 (gC _) (xR s) f false _ (fN a _ n) r⟩
 |none=>
  refine⟨0,false,(λj d=>by cases d),λb c=>?_⟩;have o:∀p∈yO a,p.1≠xR s:=λp m e=>by
   obtain⟨q,g,rfl⟩:=dO a p m;exact mv t q g (fh e)
  exact⟨c.look_out lG underlying156 (gC _) (xR s) f true o,c.look_out lG underlying156 (gC _) (xR s) f false o⟩
theorem lf(b0 b1 ao:Nat)(k:Int)(d:Tp.B)(x:Tp.Sc)(b:List Tp.Sc)(c:List Tp.Tree)(kv bx:Value)(C ca:NS)(l:List Tp.Nd)(r:List (Tp.B × Nat))(w:World)(co:yL w b1 ao ca l r)(P:Row w C b.length kv (xV b))(ct:∃a b9,bx=Y a c.length b9)(bb:Glob w)(a9:∀k,C k->k < w.heap.size)(be:x8 x=true/\x.s.length<=1000)(M:∀f∈b,x8 f=true/\f.s.length<=1000)(a5:d.length<=1000)
(b3:Tp.shaped ⟨k,d,x,b,c⟩=true)(ba:Tp.twice b=false)(da:b0<=24)(an:k=3->∃i,Tp.nameAt r d=some i)(F:k≠3->l.length≠200):
 Calls π 109 #[.pointer (some ⟨b1,0,O⟩),γ #[.int I k,xR d,.int I x.k,.int I x.n,xR x.s,kv,bx],.int I (b0:Int)] w λe w'=>e=ρ .nilIface/\Below w.heap.size w w':=by
 obtain⟨c5,db,dc,c1,c9,s⟩:=co;obtain rfl:=s.sn;obtain⟨c6,c3,bk,a1⟩:=kA r d a5 ao s.nd;obtain⟨m,q,rfl,_⟩:=P.form;obtain⟨p,g,rfl⟩:=ct;have av:=λW (j:Far xO w W)=>kG k d x b c (Y m b.length q) (Y p c.length g) C W (P.far j (λ_ _ _ e=>e)) ⟨_,_,rfl⟩ (bb.far j (λ_ _ e=>e)) be M a5 b3;have a2:=λW (j:Far xO w W)=>jI b _ C W (λf bn=>qT f (M f bn).1 (M f bn).2) (P.far j (λ_ _ _ e=>e)) (λk cc=>zK (a9 k cc) j.size);rw[ba]at a2;obtain⟨S,ad⟩:∃T,xR d=.string T:=⟨_,rfl⟩;obtain⟨H,b2⟩:∃T,xR x.s=.string T:=⟨_,rfl⟩;rw[ad,b2]at av;rw[ad]at a1;rw[ad,b2];have X:Far xO w (w.alloc (J #[.int I k,.string S,.int I x.k,.int I x.n,.string H,Y m b.length q,Y p c.length g] 161)):=(ξ _ w).alloc _;have c0:=af w (J #[.int I k,.string S,.int I x.k,.int I x.n,.string H,Y m b.length q,Y p c.length g] 161);have ac:=s.far X (λ_ _ e=>e);obtain⟨bm,cf⟩:∃n,l.length=n:=⟨_,rfl⟩;have a0:=ac.hd;have b8:=λn=>(a1 _ (show xW π 9 ((w.alloc (J #[.int I k,.string S,.int I x.k,.int I x.n,.string H,Y m b.length q,Y p c.length g] 161)).drewN n) ao (yO r)from ac.map)).1;rw[cf]at F a0;obtain⟨cm,cb,a3,ab,al,ch⟩:=zx6 av a2 X a0 c0 bk;clear av a2 X a0 s ac P bb a9 be M a5 b3 ba a1 bk
 go_enter func109,ntmps109
 go_upto_region 1 with (fail)
 generalize (w.alloc (J #[.int I k,.string S,.int I x.k,.int I x.n,.string H,Y m b.length q,Y p c.length g] 161))=o at *;obtain⟨z,L,u,_⟩:=bv ab.out;obtain⟨v,E,N,D,t,A,R,_⟩:=bd al.out
 go_quiet (fail)
 go_wp2_with fail
 have a4:Far xO o (o.drewN nq):=(ξ _ o).drewN nq;have cl:=zD a4;refine(cm.out _ (a3.out.trans a4)).mono ?_;rintro e cv ⟨rfl,b5⟩;have b4:Far xO o cv:=cl.out.below b5;have y:=zD b4;clear b5 b4 a4 z L u v E N D t A R b8;obtain⟨z,L,u,_⟩:=bv (y.out.heap ab.out id);obtain⟨v,E,N,D,t,A,R,_⟩:=bd (y.out.heap al.out id)
 go_wp2_with fail
 refine(cb.out _ (a3.out.trans y.out)).mono ?_;rintro e b6 ⟨rfl,bs⟩;have bw:Far xO o b6:=y.out.below bs;have a6:=zD bw;clear bs bw z L u v E N D t A R;obtain⟨z,L,u,_⟩:=bv (a6.out.heap ab.out id);obtain⟨v,E,N,D,t,A,R,_⟩:=bd (a6.out.heap al.out id);have bD:Below w.heap.size w b6:=(a3.out.trans a6.out).to_below (η _) (λ_ _ e=>e);by_cases G:k=3
 ·obtain⟨i,bR⟩:=an G
  obtain⟨rfl,rfl⟩:=ch.out i bR;subst G;clear an F bR
  go_wp2_with fail
  go_ret
  exact⟨rfl,bD⟩
 ·have c2:=F G
  have ck:¬(bm:Int)=200:=by omega
  have c4:(k==3)=false:=by simpa using G
  have df:((bm:Int)==200)=false:=by simpa using ck
  clear an F
  go_wp2_with fail
  go_ret
  exact⟨rfl,bD⟩
mutual
def zb:Tp.Tree->Prop
 |⟨_,name,x,keys,kids⟩=>(x8 x=true/\x.s.length<=1000)/\(∀a∈keys,x8 a=true/\a.s.length<=1000)/\name.length<=1000/\keys.length<=1000000/\kids.length<=1000000/\yE kids
def yE:List Tp.Tree->Prop
 | []=>True
 |t::r=>zb t/\yE r
end
mutual
def yv:Tp.Tree->List Tp.B
 |⟨k,name,_,_,kids⟩=>(if k=3\/name=[]then []else [name])++yl kids
def yl:List Tp.Tree->List Tp.B
 | []=>[]
 |t::r=>yv t++yl r
end
theorem yE.at:∀(a:List Tp.Tree) (i:Nat) (t:Tp.Tree),yE a->a[i]? =W t->zb t
 | [],i,t,_,h=>by simp at h
 |x::r,0,t,hg,h=>by
  unfold yE at hg;simp at h
  exact h ▸ hg.1
 |x::r,i+1,t,hg,h=>by
  unfold yE at hg;exact yE.at r i t hg.2 (by simpa using h)
theorem iH(j:Nat)(s:List Tp.Nd):∀(a:List Tp.Nd) (b:Nat),a.length<=b->Tp.addKid b j (a++s)=a++Tp.addKid (b - a.length) j s
 | [],b,_=>rfl
 |x::r,0,h=>by simp at h
 |x::r,n+1,h=>by
  have c:=iH j s r n (by simpa using h);rw[zO,Nat.add_sub_add_right];show x::Tp.addKid n j (r++s)=x::(r++_);rw[c]
mutual
theorem lay_ext:∀(t:Tp.Tree) (d:Nat) (l:List Tp.Nd) (c:List (Tp.B × Nat)) (i:Nat) (b:List Tp.Nd) (e:List (Tp.B × Nat)),Tp.lay d t (l,c)=W (i,b,e)->(∃s,b=l++s)/\(∀p∈e,p∈c\/p.1∈yv t)/\(l.length<=200->b.length<=200)
 |⟨k,name,x,keys,kids⟩,d,l,c,i,b,e,h=>by
  unfold Tp.lay at h;split at h
  ·cases h
  ·split at h
   ·obtain⟨j,_,G⟩:=zN.1 h
    cases G
    exact⟨⟨[],(List.append_nil _).symm⟩,λp f=>.inl f,id⟩
   ·rename_i hk3
    split at h
    ·cases h
    ·rename_i h200
     obtain⟨⟨E,w⟩,n,H⟩:=zN.1 h;cases H
     obtain⟨z,q,A⟩:=layL_ext kids (d+1) l.length _ _ b e n l (η _) ⟨_,rfl⟩;refine⟨z,λp f=>?_,λC=>A (by rw[zP];show l.length+1<=200;omega)⟩;unfold yv;rcases q p f with a|a
     ·by_cases o:name=[]
      ·subst o
       simp at a
       exact .inl a
      ·rw[show name.isEmpty=false by simpa using o]at a
       simp at a
       rcases a with a|a
       ·right
        rw[if_neg (by simp[hk3,o])];simp[a]
       ·exact .inl a
     ·exact .inr (List.mem_append_right _ a)
theorem layL_ext:∀(D:List Tp.Tree) (d m:Nat) (l:List Tp.Nd) (c:List (Tp.B × Nat)) (b:List Tp.Nd) (e:List (Tp.B × Nat)),Tp.layL d m D (l,c)=W (b,e)->∀g:List Tp.Nd,g.length<=m->(∃s,l=g++s)->(∃s,b=g++s)/\(∀p∈e,p∈c\/p.1∈yl D)/\(l.length<=200->b.length<=200)
 | [],d,m,l,c,b,e,h,g,_,n=>by
  unfold Tp.layL at h;cases h
  exact⟨n,λp f=>.inl f,id⟩
 |t::r,d,m,l,c,b,e,h,g,hl0,n=>by
  unfold Tp.layL at h;cases u:Tp.lay d t (l,c) with
  |none=>rw[u]at h;cases h
  |some v=>
   obtain⟨i,E,w⟩:=v;rw[u]at h;simp only at h;obtain⟨⟨L,rfl⟩,o,F⟩:=lay_ext t d l c i E w u;obtain⟨s,rfl⟩:=n;obtain⟨z,q,A⟩:=layL_ext r d m _ w b e h g hl0 ⟨_,by rw[List.append_assoc];exact iH i _ g m hl0⟩;refine⟨z,λp f=>?_,λC=>A (by unfold Tp.addKid;rw[List.length_modify];exact F C)⟩;unfold yl;rcases q p f with a|a
   ·rcases o p a with y|y
    ·exact .inl y
    ·exact .inr (List.mem_append_left _ y)
   ·exact .inr (List.mem_append_right _ a)
end
theorem vz{t:Tp.Tree}{e:Nat}{l a:List Tp.Nd}{c d:List (Tp.B × Nat)}{i:Nat}(f:Tp.lay e t (l,c)=W (i,a,d)){j:Nat}{x:Tp.Nd}(b:l[j]? =W x):a[j]? =W x:=by
 obtain⟨⟨s,rfl⟩,_⟩:=lay_ext t e l c i a d f;rw[List.getElem?_append_left (zM.1 b).1];exact b
theorem sO{l:List Tp.Nd}{i:Nat}{x:Tp.Nd}(j:Nat)(hx:l[i]? =W x):(Tp.addKid i j l)[i]? =W { x with kids:=x.kids++[j] }:=by
 unfold Tp.addKid;rw[List.getElem?_modify,hx];simp
theorem lX(d:List Tp.Sc):∀a∈xV d,a.oneCell'=true:=by
 intro a c;obtain⟨x,_,b⟩:=List.mem_flatMap.1 c;simp at b
 rcases b with rfl|rfl|rfl<;>rfl
theorem k8(b:List Tp.Sc)(v:Value)(S:NS)(w:World)(an:Row w S b.length v (xV b))(av:b.length<=1000000):
 Calls π 110 #[v] w λe w'=>(∃m,e=ρ m/\Row w' (New w) b.length m (xV b))/\Below w.heap.size w w':=by
 obtain⟨a1,ao,M,X,ab⟩:=info_parts uG;obtain⟨F,g,o,cap,rfl,u,E,c⟩:=an;have a2:=λn=>Lib.run_eql_slice_nil (P:=π) n 28 30 F b.length cap 0 0 underlying28;have u28:∀w,Sem.run π (underlying 28) w=.ok (TypeDesc.slice 30) w:=run_underlying underlying28;cases F with
 |none=>
  have q:b=[]:=by
   cases b with
   |nil=>rfl
   |cons a m=>exact absurd (c (by simp[xV])).1 (by simp)
  subst q;have a0:=λn=>Lib.run_eql_slice_nil (P:=π) n 28 30 O 0 cap 0 0 underlying28;simp only[Option.isNone_none]at a0;clear u E c
  go_enter func110,ntmps110
  go_wp2_with fail
  go_ret
  exact⟨⟨_,rfl,cy _ _⟩,ζ _ _⟩
 |some ad=>
  obtain⟨d,C⟩:∃d,b.length=d:=⟨_,rfl⟩;have y:(xV b).length=d * 3:=by rw[fq,C]
  have r:∀j f,(xV b)[j]? =W f->(w.alloc (J #[] 30)).cell? (ad.add j)=W f:=λj f t=>by
   have L:xV b≠[]:=λe=>by rw[e]at t;simp at t
   obtain⟨s,N,a3⟩:=c L;injection s with s;subst s;have ac:(⟨g,o,O⟩:Addr).add j=⟨g,o+j,O⟩:=by unfold Addr.add;split<;>simp_all
   rw[ac];exact aK N (a3 j f t)
  rw[C]at a2 av ⊢;have p:=lX b;obtain⟨i,D⟩:∃i,xV b=i:=⟨_,rfl⟩;rw[D]at y r p ⊢;obtain⟨z,A⟩:=zx2 r p;clear u E c r p D
  go_enter func110,ntmps110
  go_wp2_with (at_builtin;refine wpList_append_own _ rfl _ _ 28 rfl w.heap.size 30 a1 _ 3 32 underlying28 ao M X ab rfl (by decide) _ _ _ rfl (World.ownsRow_made w #[] 0 (η _) (z_ _) rfl) ad d cap i rfl y z.out A.out (by unfold maxLen;omega) (by omega) (by simp) ?_)
  intro a4 H l G q;have x:Below w.heap.size w H:=((ζ _ w).alloc (η _) _).grown G (by simp) (by intro k R;simp[Value.ownBlock]at R;omega);try simp only[Nat.zero_add,List.nil_append]at l
  have T:=zD x;have al:=zD (az l);clear x l G q z A
  go_wp2_with fail
  go_ret
  exact⟨⟨_,rfl,al.out⟩,T.out⟩
section
attribute [local go_sem] ak
def Au(w:World)(c d:Nat)(b:NS)(l:List Tp.Nd)(f:List (Tp.B × Nat))(v:Value):Ending->World->Prop:=λe w'=>e=ρ v/\∃a,yL w' c d a l f/\(∀k,a k->b k\/w.heap.size<=k)/\Far b w w'
theorem oX(m cm q be r c C j:Nat)(H:List Value)(y:NS)(G:List Tp.Nd)(c1:List (Tp.B × Nat))(x:Tp.Nd)(w:World)(e5:∃ao a1 a5 S ab ac ad a4 a0 al T,H=[V I ao,U a1,V I a5,V I S,U ab,Y ac ad a4,Y a0 al T])(L:w.heap[q]? =W (J #[Z (W ⟨m,0,O⟩)] 155 (0,0)))(cb:w.heap[be]? =W (J #[V I (C:Int)] 3 (0,0)))(u:w.heap[r]? =W (J #[V I (c:Int)] 3 (0,0)))(a6:¬y q/\¬y be/\¬y r)(f3:C<=100)(M:G[c]? =W x)(e6:x.kids.length<=1000000)
(bb:Calls π 76 #[Z (W ⟨m,0,O⟩),γ H.toArray,V I ((C+1:Nat):Int)] (w.alloc (J H.toArray 78)) (Au (w.alloc (J H.toArray 78)) m cm y G c1 (.tuple #[V I (j:Int),.nilIface]))):
 Calls π 111 #[γ H.toArray,Z (W ⟨q,0,O⟩),Z (W ⟨be,0,O⟩),Z (W ⟨r,0,O⟩)] w (Au w m cm y (Tp.addKid c j G) c1 .nilIface):=by
 obtain⟨d6,e4,d1,fn,e2⟩:=info_parts gI;obtain⟨ao,a1,a5,S,ab,ac,ad,a4,a0,al,T,rfl⟩:=e5;obtain⟨ck,an⟩:∃d,w.alloc (J (#[V I ao,U a1,V I a5,V I S,U ab,Y ac ad a4,Y a0 al T]) 78)=d:=⟨_,rfl⟩;have i:Far xO w ck:=by rw[<-an];exact(ξ _ w).alloc _
 have bD:=af w (J (#[V I ao,U a1,V I a5,V I S,U ab,Y ac ad a4,Y a0 al T]) 78);have fG:w.heap.size < ck.heap.size:=by rw[<-an];simp
 rw[an]at bb bD;obtain⟨dp,e0,e9,d5,db,d2,fv,_⟩:=bd bD;have c3:=zF (i.heap L id) 0 rfl;have c5:=zF (i.heap cb id) 0 rfl;have en:IntKind.i64.wrap ((C:Int)+1)=((C+1:Nat):Int):=by rw[show (C:Int)+1=((C+1:Nat):Int)by omega];exact zU _ (by omega)
 obtain⟨fs,e8,cl,b5⟩:=zx4 bb i L u;clear bb i bD L cb u
 go_enter func111,ntmps111
 go_upto_region 1 with (fail)
 clear an
 go_wp2_with fail
 refine fs.out.mono ?_;rintro e f ⟨rfl,ct,bs,bR,c2⟩;clear dp e0 e9 d5 db d2 fv c3 c5 en;obtain⟨dr,f7,b0,b2,f1,o⟩:=bs;obtain rfl:=o.sn;have b8:=(zM.1 M).1;obtain⟨p,R⟩:∃p,b2[c]? =W p:=⟨_,zE (by rw[o.len];exact b8)⟩;obtain⟨_,P⟩:=o.nds c x p M R;obtain⟨lb,rfl⟩:∃lb,dr=W ⟨lb,0,O⟩:=by
  rcases o.row.2 with ⟨e,f5⟩|⟨g,cap,b4,e,_⟩
  ·omega
  ·injection e with e _ _
   exact⟨g,e⟩
 obtain⟨E,cf,A,av⟩:∃a n dv,p.2=Y a n dv:=by
  rcases P.2 with ⟨e,_⟩|⟨g,cap,b4,e,_⟩
  ·exact⟨_,_,_,e⟩
  ·exact⟨_,_,_,e⟩
 have c5:f.cell? ⟨lb,c * 6+5,O⟩=W (Y E cf A):=by
  have b:=o.row.cells (g:=lb) rfl (c * 6+5) p.2 (fM G b2 c x p M R);rw[av,gK]at b;exact b
 have co:f.frozen? ⟨lb,c * 6+5,O⟩=false:=by
  obtain⟨b4,ft⟩:=aU o.row;exact ag ft _
 have b3:=e8.out.mono (D':=y) (λ_ _ e=>e.elim);have a2:=b3.trans c2;have c3:=zF (a2.heap cl.out a6.1) 0 rfl;have b1:=zF (a2.heap b5.out a6.2.2) 0 rfl;have bk:=zF o.hd 1 rfl;have fr:=lt_of_heap cl.out;have dc:=lt_of_heap b5.out;have a3:∀k,k < w.heap.size->¬y k->¬ct k:=λk fl ex L=>by
  rcases bR k L with b|b
  ·exact ex b
  ·omega
 have bn:∀k,p.2.ownBlock=W k->k≠q/\k≠r/\k≠m/\k≠lb/\ct k:=λk e=>by
  obtain⟨ba,e1,_,_,es⟩:=o.ownK c p k R e;refine⟨λb=>a3 q fr a6.1 (b ▸ ba),λb=>a3 r dc a6.2.2 (b ▸ ba),e1,λb=>es (by rw[b];rfl),ba⟩
 have d0:(c:Int) < (G.length:Int):=by omega
 have f2:(0:Int)<=(c:Int):=by omega
 obtain⟨N,bs⟩:∃N,G.length=N:=⟨_,rfl⟩;rw[av]at P bn;have df:cf=x.kids.length:=cz P;subst df;obtain⟨s,X⟩:∃n,x.kids.length=n:=⟨_,rfl⟩;obtain⟨c9,bm,D,ca,a9,c6⟩:=zx6 o P bn a2 bR av;have c0:=zD (θ M R);have f4:=zD a3;rw[bs]at bk d0 b8;rw[X]at c5 e6 bm D;have l:(λd=>d.cell? ⟨q,0,O⟩=W (Z (W ⟨m,0,O⟩))/\d.cell? ⟨r,0,O⟩=W (V I (c:Int))/\d.cell? ⟨m,1,O⟩=W (Y (W ⟨lb,0,O⟩) N b0)/\d.cell? ⟨lb,c * 6+5,O⟩=W (Y E s A)) f.drew:=⟨c3,b1,bk,c5⟩;clear o P bn b3 a2 bR c2 av M R a3 c3 b1 bk c5
 go_upto_region 2 with (fail)
 refine wp_region_noPanic ?_;refine ar (λd=>d.cell? ⟨q,0,O⟩=W (Z (W ⟨m,0,O⟩))/\d.cell? ⟨r,0,O⟩=W (V I (c:Int))/\d.cell? ⟨m,1,O⟩=W (Y (W ⟨lb,0,O⟩) N b0)/\d.cell? ⟨lb,c * 6+5,O⟩=W (Y E s A)) [20] (by kernel_rfl) ?_;refine ay 10 (by kernel_rfl) (λ_ _ _ _ b=>b) l 5 [0,1,2,3,4,5,6,7,8,9,10,11,12,13,14,15] _ _ (by kernel_rfl) ?_;iterate 16 (refine ax (v:=?_) ?_ ?_;rotate_left;·(intro ei u;(try dsimp only at u);(try obtain⟨eg,d3,da,e7⟩:=u);go_simp;try with_reducible rfl);(try go_frame))
 refine xT.done ?_;try dsimp only
 refine aq [16] ?_;refine aj rfl (λK t=>?_) xQ.nil
 go_simp
 have i:Far xO f (f.drew.alloc (J #[V I (j:Int)] 3)):=(ξ _ f).drew.alloc _;refine t.out _ _ (λ_=>⟨i.at l.1 id,i.at l.2.1 id,i.at l.2.2.1 id,i.at l.2.2.2 id⟩) ?_;clear t K
 (try go_frame)
 refine aq [17] ?_;refine aj rfl (λK t=>?_) xQ.nil;refine wp_append_lies _ (.tmp 31) (.tmp 33) 122 rfl 0 3 d6 _ 1 8 underlying122 e4 d1 fn e2 rfl (by decide) (Y E s A) s _ rfl (am bm.out i (λ_ _ e=>e)) ⟨f.heap.size,0,O⟩ 1 1 [V I (j:Int)] ?_ rfl ?_ ?_ (by omega) ?_ ?_ ?_ _ rfl ?_
 ·rfl
 ·intro er f0 ds
  rw[gK];exact(ae (af f.drew (J #[V I (j:Int)] 3)) er).trans (by simpa using ds)
 ·simp[Value.oneCell']
 ·unfold maxLen;omega
 ·omega
 ·exact z_ _
 intro gg cap w5 bw c4 cc fR;have z:Far (λk=>(Value.slice E s A).ownBlock=W k) f w5:=(i.mono (λ_ _ e=>e.elim)).grown c4 (λk e _=>e);have fz:f.heap.size<=(f.alloc (J #[V I (j:Int)] 3)).drew.heap.size:=i.size;have bx:∀k,(Value.slice (W ⟨gg,0,O⟩) (s+1) cap).ownBlock=W k->(Value.slice E s A).ownBlock=W k\/f.heap.size<=k:=λk e=>by
  injection e with e;dsimp only at e
  subst e;rcases cc with b|b
  ·exact .inl b
  ·right;omega
 have b9:(λd=>d.cell? ⟨q,0,O⟩=W (Z (W ⟨m,0,O⟩))/\d.cell? ⟨r,0,O⟩=W (V I (c:Int))/\d.cell? ⟨m,1,O⟩=W (Y (W ⟨lb,0,O⟩) N b0)/\d.cell? ⟨lb,c * 6+5,O⟩=W (Y E s A)) w5:=⟨z.at l.1 (λe=>(D.out _ e).1 rfl),z.at l.2.1 (λe=>(D.out _ e).2.1 rfl),z.at l.2.2.1 (λe=>(D.out _ e).2.2.1 rfl),z.at l.2.2.2 (λe=>(D.out _ e).2.2.2.1 rfl)⟩;have d4:=z.frozen (p:=⟨lb,c * 6+5,O⟩) (World.block_lt_of_cell? f ⟨lb,c * 6+5,O⟩ l.2.2.2) (λe=>(D.out _ e).2.2.2.1 rfl);rw[show f.frozen? ⟨lb,c * 6+5,O⟩=false from co]at d4;rw[show xP x.kids++[Value.int I (j:Int)]=xP (x.kids++[j])by simp[xP]]at bw;obtain⟨b6,cv⟩:=c9.out.kid (j:=j) (w5:=w5) c0.out.1 c0.out.2 (by rw[c6.out,X];exact z) (by rw[X];exact bw) (by rw[c6.out,X];exact bx);obtain⟨eq,e3,dn⟩:=zx3 b6 cv bx;have f6:=b9.2.2.2;have ch:=zD b9;refine t.out _ _ (λ_=>ch.out) ?_;clear t K bw c4 cc z i b6 cv bx l c9 bm co
 (try go_frame)
 refine ay 10 (by kernel_rfl) (λ_ _ _ _ b=>b) ch.out 1 [18,19] _ _ (by kernel_rfl) ?_;iterate 2 (refine ax (v:=?_) ?_ ?_;rotate_left;·(intro ei u;(try dsimp only at u);(try obtain⟨eg,d3,da,e7⟩:=u);go_simp;try with_reducible rfl);(try go_frame))
 refine xT.done ?_;try dsimp only
 refine aq [20] ?_;refine aj rfl (λK t=>?_) xQ.nil
 go_simp
 refine t.out _ _ (λb=>absurd (by simp) b) ?_;clear t K
 (try go_frame)
 refine aP (by kernel_rfl) (NoPanic.normal ?_) _
 go_wp2_with fail
 go_ret
 refine⟨rfl,_,⟨_,_,_,_,_,eq.out⟩,λk F=>?_,ca.out.step e3.out (λk F e=>?_)⟩
 ·have fl:=ca.out.size
  rcases F with F|F
  ·rcases a9.out k F with b|b
   ·exact .inl b
   ·right;omega
  ·rcases dn.out k F with b|b
   ·rcases a9.out k (D.out k b).2.2.2.2 with b|b
    ·exact .inl b
    ·right;omega
   ·right;omega
 ·rcases a9.out k e with b|b
  ·exact b
  ·omega
end
section
attribute [local go_sem] ak
theorem nF:∀(n z f y:Nat) (t:Tp.Tree) (ex:List Value) (a0 u:NS) (l d0:List Tp.Nd) (A da:List (Tp.B × Nat)) (i:Nat) (w:World),Tp.depth t<=n->xS w a0 t ex->zb t->yL w f y u l A->(∀k,a0 k->k < w.heap.size/\¬u k)->Glob w->(∀k,u k->10<=k)->Tp.lay z t (l,A)=W (i,d0,da)->(∀p∈A,p.1 ∉ yv t)->(yv t).Nodup->l.length<=200->n<=1000->
 Calls π 76 #[.pointer (W ⟨f,0,O⟩),γ ex.toArray,.int I (z:Int)] w (Au w f y u d0 da (.tuple #[.int I (i:Int),.nilIface]))
 |0,z,f,y,⟨k,name,x,keys,kids⟩,ex,a0,u,l,d0,A,da,i,w,hd,_,_,_,_,_,_,_,_,_,_,_=>by unfold Tp.depth at hd;omega
 |n+1,z,f,y,⟨k,name,x,keys,kids⟩,ex,a0,u,l,d0,A,da,i,w,hd,ei,hg,hL,hGS,hG,hS10,G,g0,hnd,hl2,hn=>by
  obtain⟨q1,hj,qb,om,pl⟩:=info_parts mI;have hI:=λf y t ex (a0 u:NS) l d0 A da i w F H bk h4 h5 h6 h7 h8 av k6 h11=>nF n (z+1) f y t ex a0 u l d0 A da i w F H bk h4 h5 h6 h7 h8 av k6 h11 (by omega);unfold Tp.depth at hd;unfold xS at ei;unfold zb at hg;unfold Tp.lay at G;obtain⟨l9,kt,k1,ka,p3,kk⟩:=hg;obtain⟨kv,pe,m1,rfl,fs,hU,hH⟩:=ei;by_cases fR:24 < z\/Tp.shaped ⟨k,name,x,keys,kids⟩=false\/Tp.twice keys=true
  ·rw[if_pos fR]at G;cases G
  rw[if_neg fR]at G;have o0:z<=24:=by omega
  have l0:Tp.shaped ⟨k,name,x,keys,kids⟩=true:=by
   cases b:Tp.shaped ⟨k,name,x,keys,kids⟩ with
   |true=>rfl
   |false=>exact absurd (.inr (.inl b)) fR
  have ls:Tp.twice keys=false:=by
   cases b:Tp.twice keys with
   |false=>rfl
   |true=>exact absurd (.inr (.inr b)) fR
  clear fR;have hE:=λc (gf:Far xO w c) (bk:k=3->∃i,Tp.nameAt A name=W i) (q3:k≠3->l.length≠200)=>lf z f y k name x keys kids kv pe a0 u l A c (hL.far gf (λ_ _ e=>e)) (fs.far gf (λ_ _ _ e=>e)) (by obtain⟨a,nn,b,_⟩:=hH.form;exact⟨a,nn,b⟩) (hG.far gf (λ_ _ e=>e)) (λk R=>zK (hGS k R).1 gf.size) l9 kt k1 l0 ls o0 bk q3;obtain⟨X,ad,rfl,_⟩:=fs.form;obtain⟨c2,g,o,dv,rfl,mt,dr,e9⟩:=hH.at
  have m9:=xU.len _ _ hU;have p1:kids.length<=9223372036854775807:=mt;have i2:∀j P,kids[j]? =W P->∃v:List Value,xS w a0 P v/\c2=W ⟨g,o,O⟩/\a0 g/\∀i,i < 7->∀cv,v[i]? =W cv->w.cell? ⟨g,o+j * 7+i,O⟩=W cv:=λj P b=>by
   obtain⟨v,F,H⟩:=xU.at kids m1 j P hU b;have js:m1≠[]:=λe=>by
    have F:=(zM.1 b).1;have H:kids.length * 7=0:=by rw[<-m9,e];rfl
    omega
   exact⟨v,F,(dr js).1,(dr js).2.1,λi hj cv ps=>by rw[Nat.add_assoc];exact e9 _ _ ((H i hj).trans ps)⟩
  obtain⟨al,f5⟩:∃T,xR name=.string T:=⟨_,rfl⟩;obtain⟨SX,ge⟩:∃T,xR x.s=.string T:=⟨_,rfl⟩;obtain⟨L,f4⟩:∃L,kids.length=L:=⟨_,rfl⟩;obtain⟨C,fl⟩:∃L,keys.length=L:=⟨_,rfl⟩;obtain⟨d,d3⟩:∃d,w.heap.size=d:=⟨_,rfl⟩;rw[f5,ge,f4,fl]at hE;rw[fl]at fs ka;rw[f4]at p1 p3;rw[f5,ge,f4,fl];have i9:Far xO w (((w.alloc (J #[.pointer (W ⟨f,0,O⟩)] 155)).alloc (J #[.int I k,.string al,.int I x.k,.int I x.n,.string SX,Y X C ad,Y c2 L dv] 161)).alloc (J #[.int I (z:Int)] 3)):=(((ξ _ w).alloc _).alloc _).alloc _;have hX:(((w.alloc (J #[.pointer (W ⟨f,0,O⟩)] 155)).alloc (J #[.int I k,.string al,.int I x.k,.int I x.n,.string SX,Y X C ad,Y c2 L dv] 161)).alloc (J #[.int I (z:Int)] 3)).heap[d]? =W (J #[.pointer (W ⟨f,0,O⟩)] 155 (0,0)):=by rw[<-d3];exact aa _ (aa _ (af w _))
  have h3:(((w.alloc (J #[.pointer (W ⟨f,0,O⟩)] 155)).alloc (J #[.int I k,.string al,.int I x.k,.int I x.n,.string SX,Y X C ad,Y c2 L dv] 161)).alloc (J #[.int I (z:Int)] 3)).heap[d+1]? =W (J #[.int I k,.string al,.int I x.k,.int I x.n,.string SX,Y X C ad,Y c2 L dv] 161 (0,0)):=aa _ (ah _ _ _ (by simp[d3]));have le:(((w.alloc (J #[.pointer (W ⟨f,0,O⟩)] 155)).alloc (J #[.int I k,.string al,.int I x.k,.int I x.n,.string SX,Y X C ad,Y c2 L dv] 161)).alloc (J #[.int I (z:Int)] 3)).heap[d+1+1]? =W (J #[.int I (z:Int)] 3 (0,0)):=ah _ _ _ (by simp[d3]);have l4:(((w.alloc (J #[.pointer (W ⟨f,0,O⟩)] 155)).alloc (J #[.int I k,.string al,.int I x.k,.int I x.n,.string SX,Y X C ad,Y c2 L dv] 161)).alloc (J #[.int I (z:Int)] 3)).heap.size=d+3:=by simp[d3]
  obtain⟨n0,oj,ha,e7,g7,f9⟩:=zx6 hI i2 hE i9 hX h3;obtain⟨hC,f1,p8,gk,i1,l7⟩:=zx6 le d3 l4 hL hGS hG;obtain⟨p4,q0,qk⟩:=zx3 hS10 fs kk;have f8:=zD (θ g0 hnd);have er:=zD (θ f4 fl);have f2:=zD (θ f5 ge);have np:=zD hd;clear l4 hI i2 hE i9 hX h3 le hL hGS hG hS10 fs kk g0 hnd hU hH e9 dr m9 mt l0 ls kt l9 hd f4 fl f5 ge
  go_enter func76,ntmps76
  go_upto_region 1 with (fail)
  generalize (((w.alloc (J #[.pointer (W ⟨f,0,O⟩)] 155)).alloc (J #[.int I k,.string al,.int I x.k,.int I x.n,.string SX,Y X C ad,Y c2 L dv] 161)).alloc (J #[.int I (z:Int)] 3))=gb at *;clear d3;obtain⟨e0,_⟩:=sS g7.out;obtain⟨ba,bs,bw,a6,be,a5,b9,_⟩:=bd f9.out;obtain⟨gl,_⟩:=sS hC.out;by_cases e1:k=3
  ·subst e1
   rw[if_pos rfl]at G;obtain⟨d2,hN,hk⟩:=zN.1 G;cases hk
   go_wp2_with fail
   refine(ha.out gb e7.out (λ_=>⟨_,hN⟩) (λb=>absurd rfl b)).mono ?_;rintro e E ⟨rfl,f3⟩;have a1:Far xO gb E:=Far.of_below f3 xO;obtain⟨ao,on,an,ne,n2,ds⟩:=gk.out;obtain⟨ro,rt,h2,ks⟩:=kA A name k1 y ds.nd;obtain⟨_,rfl⟩:=h2 i hN;have cm:=(ds.far e7.out (λ_ _ e=>e)).far a1 (λ_ _ e=>e);have nm:=λn=>(ks _ (show xW π 9 (E.drewN n) y (yO A)from cm.map)).2;rw[f2.out.1]at nm;clear e0 ba bs bw a6 be a5 b9 gl h2 ks;obtain⟨e0,_⟩:=sS (a1.heap g7.out id);obtain⟨ba,bs,bw,a6,be,a5,b9,_⟩:=bd (a1.heap f9.out id);obtain⟨gr,e4,f7,_⟩:=bv cm.hd;have eg:=e7.out.trans a1;obtain⟨ga,f6⟩:=zx2 cm eg;clear ds cm a1 f3 eg hN G
   go_upto_region 5 with (fail)
   go_quiet (fail)
   go_wp2_with fail
   go_ret2
   have N:Far xO w (E.drewN nq):=f6.out.drewN nq;exact⟨rfl,u,⟨_,_,_,_,_,ga.out.far (show Far xO E (E.drewN nq)from (ξ _ E).drewN nq) (λ_ _ e=>e)⟩,λ_ b=>.inl b,N.mono (λ_ _ e=>e.elim)⟩
  ·rw[if_neg e1]at G
   by_cases g2:l.length=200
   ·rw[if_pos g2]at G;cases G
   rw[if_neg g2]at G;obtain⟨⟨en,es⟩,G,hk⟩:=zN.1 G;cases hk
   have rJ:(k==3)=false:=by simpa using e1
   go_wp2_with fail
   refine(ha.out gb e7.out (λb=>absurd b e1) (λ_=>g2)).mono ?_;rintro e E ⟨rfl,f3⟩;have a1:Far xO gb E:=Far.of_below f3 xO;have eg:=e7.out.trans a1;obtain⟨ao,on,an,ne,n2,ds⟩:=gk.out;have cm:=ds.far eg (λ_ _ e=>e);obtain rfl:=ds.sn;obtain⟨m,hl⟩:∃m,l.length=m:=⟨_,rfl⟩;clear e0 ba bs bw a6 be a5 b9 gl ds;obtain⟨e0,_⟩:=sS (a1.heap g7.out id);obtain⟨ba,bs,bw,a6,be,a5,b9,_⟩:=bd (a1.heap f9.out id);obtain⟨gl,_⟩:=sS (a1.heap hC.out id);have hw:=cm.hd;rw[hl]at hw g2 G hl2;obtain⟨gr,e4,f7,_⟩:=bv hw;obtain⟨ga,f6,e2,h1,a9⟩:=zx5 cm eg a1 G hl;clear cm a1 f3 eg G hw hl ha
   go_upto_region 7 with (fail)
   obtain⟨q,gx⟩:∃q,E.heap.size=q:=⟨_,rfl⟩;have N:Far xO E (E.alloc (J #[.int I (m:Int)] 3)):=(ξ _ E).alloc _;have ih:(E.alloc (J #[.int I (m:Int)] 3)).heap[q]? =W (J #[.int I (m:Int)] 3 (0,0)):=by rw[<-gx];exact af E _
   have ln:(E.alloc (J #[.int I (m:Int)] 3)).heap.size=q+1:=by rw[<-gx];exact Array.size_push ..
   have b2:(λc=>c.cell? ⟨d,0,O⟩=W (.pointer (W ⟨f,0,O⟩))/\c.cell? ⟨f,1,O⟩=W (Y ao m an)/\c.cell? ⟨d+1,0,O⟩=W (.int I k)/\c.cell? ⟨d+1,2,O⟩=W (.int I x.k)/\c.cell? ⟨d+1,3,O⟩=W (.int I x.n)/\c.cell? ⟨d+1,4,O⟩=W (.string SX)/\c.cell? ⟨d+1,5,O⟩=W (Y X C ad)) (E.alloc (J #[.int I (m:Int)] 3)):=⟨N.at e0 id,N.at e4 id,N.at ba id,N.at bw id,N.at a6 id,N.at be id,N.at a5 id⟩;rw[gx];have rn:d+3<=q:=by have F:=e2.out.size;have H:=p8.out;omega
   have hY:=ga.out.far N (λ_ _ e=>e);have i3:∀k,u k->k < d:=λk b=>by have:=gk.out.lt k b;rw[f1.out]at this;exact this
   obtain⟨eq,kn⟩:=zx2 i3 ih;have hr:=zD ((e2.out.trans N).heap f9.out id);have l1:=zD ((e2.out.trans N).heap g7.out id);have p2:=zD ((e2.out.trans N).heap hC.out id);obtain⟨i8,fv⟩:=zx2 ln hY;have hs:=zD (f6.out.trans N);clear i3 e0 ba bs bw a6 be a5 b9 gl gr e4 f7 N ih ln hY ga f6 e2 gx;generalize (E.alloc (J #[.int I (m:Int)] 3))=D at *;have ra:D.heap.size=q+1:=i8.out;have hF:=k8 keys (Y X C ad) a0 D.drew (by rw[er.out.2];exact q0.out.far (hs.out.drew) (λ_ _ _ e=>e)) (by rw[er.out.2];exact ka);rw[er.out.2]at hF;have lt:=zD hF;clear hF;refine wp_region_noPanic ?_;refine ar (λc=>c.cell? ⟨d,0,O⟩=W (.pointer (W ⟨f,0,O⟩))/\c.cell? ⟨f,1,O⟩=W (Y ao m an)/\c.cell? ⟨d+1,0,O⟩=W (.int I k)/\c.cell? ⟨d+1,2,O⟩=W (.int I x.k)/\c.cell? ⟨d+1,3,O⟩=W (.int I x.n)/\c.cell? ⟨d+1,4,O⟩=W (.string SX)/\c.cell? ⟨d+1,5,O⟩=W (Y X C ad)) [22] (by kernel_rfl) ?_;refine ay 10 (by kernel_rfl) (λ_ _ _ _ b=>b) (show (λc=>c.cell? ⟨d,0,O⟩=W (.pointer (W ⟨f,0,O⟩))/\c.cell? ⟨f,1,O⟩=W (Y ao m an)/\c.cell? ⟨d+1,0,O⟩=W (.int I k)/\c.cell? ⟨d+1,2,O⟩=W (.int I x.k)/\c.cell? ⟨d+1,3,O⟩=W (.int I x.n)/\c.cell? ⟨d+1,4,O⟩=W (.string SX)/\c.cell? ⟨d+1,5,O⟩=W (Y X C ad)) D.drew from b2) 8 [0,1,2,3,4,5,6,7,8,9,10,11,12,13,14] _ _ (by kernel_rfl) ?_;iterate 15 (refine ax (v:=?_) ?_ ?_;rotate_left;·(intro he av;(try dsimp only at av);(try obtain⟨hS,hb,hM,hm,l5,i7,i0⟩:=av);go_simp;try with_reducible rfl);(try go_frame))
   refine xT.done ?_;try dsimp only
   refine aq [15] ?_;refine aj rfl (λK S=>?_) xQ.nil
   go_simp
   refine lt.out.mono ?_;rintro e ac ⟨⟨r,rfl,hJ⟩,lb⟩;obtain⟨fn,e3,rfl,_⟩:=hJ.form;have bb:Far xO D ac:=((ξ _ D).drew).below lb;have ck:(λc=>c.cell? ⟨d,0,O⟩=W (.pointer (W ⟨f,0,O⟩))/\c.cell? ⟨f,1,O⟩=W (Y ao m an)/\c.cell? ⟨d+1,0,O⟩=W (.int I k)/\c.cell? ⟨d+1,2,O⟩=W (.int I x.k)/\c.cell? ⟨d+1,3,O⟩=W (.int I x.n)/\c.cell? ⟨d+1,4,O⟩=W (.string SX)/\c.cell? ⟨d+1,5,O⟩=W (Y X C ad)) ac:=⟨bb.at b2.1 (id),bb.at b2.2.1 (id),bb.at b2.2.2.1 (id),bb.at b2.2.2.2.1 (id),bb.at b2.2.2.2.2.1 (id),bb.at b2.2.2.2.2.2.1 (id),bb.at b2.2.2.2.2.2.2 (id)⟩;have hP:=zD ck;refine S.out _ _ (λ_=>hP.out) ?_;clear S K b2 lb
   (try go_frame)
   refine ay 10 (by kernel_rfl) (λ_ _ _ _ b=>b) hP.out 6 [16] _ _ (by kernel_rfl) ?_;iterate 1 (refine ax (v:=?_) ?_ ?_;rotate_left;·(intro he av;(try dsimp only at av);(try obtain⟨hS,hb,hM,hm,l5,i7,i0⟩:=av);go_simp;try with_reducible rfl);(try go_frame))
   refine xT.done ?_;try dsimp only
   refine aq [17] ?_;refine aj rfl (λK S=>?_) xQ.nil
   go_simp
   obtain⟨d1,f0⟩:∃c,ac.alloc (J #[.int I k,.int I x.k,.int I x.n,.string SX,Y fn C e3,Y O 0 0] 185)=c:=⟨_,rfl⟩;have bn:Far xO ac d1:=by rw[<-f0];exact(ξ _ ac).alloc _
   have ft:d1.heap[ac.heap.size]? =W (J #[.int I k,.int I x.k,.int I x.n,.string SX,Y fn C e3,Y O 0 0] 185 (0,0)):=by rw[<-f0];exact af ac _
   have op:d1.heap.size=ac.heap.size+1:=by rw[<-f0];exact Array.size_push ..
   rw[f0];clear f0;have bx:(λc=>c.cell? ⟨d,0,O⟩=W (.pointer (W ⟨f,0,O⟩))/\c.cell? ⟨f,1,O⟩=W (Y ao m an)/\c.cell? ⟨d+1,0,O⟩=W (.int I k)/\c.cell? ⟨d+1,2,O⟩=W (.int I x.k)/\c.cell? ⟨d+1,3,O⟩=W (.int I x.n)/\c.cell? ⟨d+1,4,O⟩=W (.string SX)/\c.cell? ⟨d+1,5,O⟩=W (Y X C ad)) d1:=⟨bn.at ck.1 (id),bn.at ck.2.1 (id),bn.at ck.2.2.1 (id),bn.at ck.2.2.2.1 (id),bn.at ck.2.2.2.2.1 (id),bn.at ck.2.2.2.2.2.1 (id),bn.at ck.2.2.2.2.2.2 (id)⟩;have kf:=zD bx;refine S.out _ _ (λ_=>kf.out) ?_;clear S K ck
   (try go_frame)
   have g6:=bb.trans bn;have rs:=bb.size;have hx:=am fv.out.row g6 (λ_ _ e=>e);rw[a9.out]at hx;have q5:m<=199:=by omega
   refine aq [18] ?_;refine aj rfl (λK S=>?_) xQ.nil;refine wp_append_lies d1 (.tmp 44) (.tmp 56) 52 rfl 0 185 q1 _ 6 88 underlying52 hj qb om pl rfl (by decide) (Y ao m an) m _ rfl hx ⟨ac.heap.size,0,O⟩ 1 1 [.int I k,.int I x.k,.int I x.n,.string SX,Y fn C e3,Y O 0 0] ?_ rfl ?_ ?_ (by omega) ?_ ?_ ?_ _ rfl ?_
   ·rfl
   ·intro n1 cv p6
    rw[gK];exact(ae ft n1).trans (by simpa using p6)
   ·simp[Value.oneCell']
   ·unfold maxLen;omega
   ·omega
   ·exact z_ _
   intro gg cap w5 i4 hp hQ q8;have d5:Far (λk=>(Value.slice ao m an).ownBlock=W k) D w5:=(g6.mono (λ_ _ e=>e.elim)).grown hp (λk e _=>e);have bm:Far (λk=>(Value.slice ao m an).ownBlock=W k) d1 w5:=(ξ _ d1).grown hp (λk e _=>e);have fz:∀k,(Value.slice ao m an).ownBlock=W k->u k/\k≠f:=λk e=>by
    have b:=fv.out.ownL k (by rw[a9.out];exact e);exact⟨b.1,b.2.1⟩
   have b0:∀k,(Value.slice ao m an).ownBlock=W k->k < d:=λk e=>eq.out k (fz k e).1;have g3:(λc=>c.cell? ⟨d,0,O⟩=W (.pointer (W ⟨f,0,O⟩))/\c.cell? ⟨f,1,O⟩=W (Y ao m an)/\c.cell? ⟨d+1,0,O⟩=W (.int I k)/\c.cell? ⟨d+1,2,O⟩=W (.int I x.k)/\c.cell? ⟨d+1,3,O⟩=W (.int I x.n)/\c.cell? ⟨d+1,4,O⟩=W (.string SX)/\c.cell? ⟨d+1,5,O⟩=W (Y X C ad)) w5:=⟨bm.at bx.1 (λe=>by have b:=b0 _ e;dsimp only at b;omega),bm.at bx.2.1 (λe=>(fz _ e).2 rfl),bm.at bx.2.2.1 (λe=>by have b:=b0 _ e;dsimp only at b;omega),bm.at bx.2.2.2.1 (λe=>by have b:=b0 _ e;dsimp only at b;omega),bm.at bx.2.2.2.2.1 (λe=>by have b:=b0 _ e;dsimp only at b;omega),bm.at bx.2.2.2.2.2.1 (λe=>by have b:=b0 _ e;dsimp only at b;omega),bm.at bx.2.2.2.2.2.2 (λe=>by have b:=b0 _ e;dsimp only at b;omega)⟩;have nv:w5.frozen? ⟨f,1,O⟩=false:=ag (d5.heap fv.out.hd (λe=>(fz _ e).2 rfl)) 1;have hi:(Value.slice ao m an).ownBlock=W gg\/D.heap.size<=gg:=by
    rcases hQ with b|b
    ·exact .inl b
    ·right;have:=g6.size;omega
   have l8:∀k,D.heap.size<=k/\k < ac.heap.size->D.heap.size<=k/\k < w5.heap.size/\k≠gg:=λk b=>by
    have F:=bm.size;refine⟨b.1,by omega,?_⟩;rcases hQ with H|H
    ·have:=b0 _ H;omega
    ·omega
   have kd:Row w5 (λk=>D.heap.size<=k/\k < ac.heap.size) C (Y fn C e3) (xV keys):=((hJ.mono (G':=λk=>D.heap.size<=k/\k < ac.heap.size) (λk F H=>⟨F,H⟩)).far bn (λ_ _ _ e=>e)).far bm (λk R _ e=>by have:=b0 _ e;omega);obtain⟨a2,hy⟩:=fv.out.node (x:=⟨k,x,keys,[]⟩) (KK:=λk=>D.heap.size<=k/\k < ac.heap.size) (gg:=gg) (cap:=cap) (kv:=Y fn C e3) rfl (by rw[a9.out];exact d5) (by rw[er.out.2];exact kd) l8 (by rw[a9.out,f2.out.2];exact i4) (by rw[a9.out];exact hi);rw[a9.out]at a2 hy;obtain⟨cl,ho⟩:∃cl:NS,(λk=>u k\/k=gg\/(D.heap.size<=k/\k < ac.heap.size))=cl:=⟨_,rfl⟩;rw[ho]at a2;have mp:∀k,cl k->u k\/q+1<=k:=λk b=>by
    rw[<-ho]at b;rcases b with b|b|b
    ·exact .inl b
    ·subst b
     rcases hi with b|b
     ·exact .inl (fz _ b).1
     ·right;omega
    ·right;omega
   have hu:RowKit.Hid (yL (w5.setCell ⟨f,1,O⟩ (Y (W ⟨gg,0,O⟩) (m+1) cap)) f y cl (l++[⟨k,x,keys,[]⟩]) A):=zD ⟨_,_,_,_,_,a2⟩;obtain⟨e5,hB,hc⟩:=zx3 hy mp g3;have n4:=g3.2.1;refine S.out _ _ (λ_=>hc.out) ?_;clear S K i4 hp hQ d5 bm fz b0 bx g3 hi l8 kd a2 hy ho mp hJ bn ft op g6 hx bb
   (try go_frame)
   refine ay 10 (by kernel_rfl) (λ_ _ _ _ b=>b) hc.out 1 [19,20,21] _ _ (by kernel_rfl) ?_;iterate 3 (refine ax (v:=?_) ?_ ?_;rotate_left;·(intro he av;(try dsimp only at av);(try obtain⟨hS,hb,hM,hm,l5,i7,i0⟩:=av);go_simp;try with_reducible rfl);(try go_frame))
   refine xT.done ?_;try dsimp only
   refine aq [22] ?_;refine aj rfl (λK S=>?_) xQ.nil
   go_simp
   refine S.out _ _ (λb=>absurd (by simp) b) ?_;clear S K
   (try go_frame)
   refine aP (by kernel_rfl) (NoPanic.normal ?_) _;generalize (w5.setCell ⟨f,1,O⟩ (Y (W ⟨gg,0,O⟩) (m+1) cap))=dc at *;clear n4 nv lt fv hP kf hc i8;obtain⟨ba,bs,bw,a6,be,a5,b9,_⟩:=bd (e5.out.heap hr.out (λe=>by have:=eq.out _ e;omega));simp only[Exit.then]
   apply_assumption
   go_upto_if 64 with (fail)
   go_cut [9]from 61 (λfr wx=>fr=.pointer (W ⟨q,0,O⟩)/\yL wx f y cl (l++[⟨k,x,keys,[]⟩]) (if name.isEmpty then A else (name,m)::A)/\Far cl dc wx)
   case first=>
    cases M:name.isEmpty with
    |true=>
     have fG:name=[]:=by simpa using M
     have hT:al.toList.isEmpty=true:=by
      have b:=f2.out.1;injection b with b;rw[<-b,cZ];exact M
     clear ba bs bw a6 be a5 b9;rw[hT]
     go_wp2_with fail
     go_meet
     case rel=>exact⟨rfl,by rw[if_pos M];exact hu.out,ξ _ _⟩
    |false=>
     have fG:name≠[]:=by simpa using M
     have hT:al.toList.isEmpty=false:=by
      have b:=f2.out.1;injection b with b;rw[<-b,cZ];exact M
     obtain⟨q6,rb,rd,r0,q7,a2⟩:=hu.out;obtain⟨rc,i6⟩:=o3 ⟨name.toArray⟩ (by show name.length<=_;omega);have hA:∀p∈A,p.1≠name:=λp ab e=>f8.out.1 p ab (by
      unfold yv;rw[if_neg (by simp[e1,fG]),e];simp)
     obtain⟨hf,pb,l6,db⟩:=(show xW π 9 dc.drew y (yO A)from a2.map).put lG underlying156 (xR name) (.int I (m:Int)) i6 (λp ab e=>by
      obtain⟨o1,p0,rfl⟩:=dO A p ab;exact hA o1 p0 (fh e))
     rw[f2.out.1]at pb;have lc:=a2.name (i:=m) (s:=name) (w':=hf) l6 ((ξ (·=y) dc).drew.trans db) hA;have d4:(λc=>c.cell? ⟨d,0,O⟩=W (.pointer (W ⟨f,0,O⟩))/\c.cell? ⟨f,2,O⟩=W (.map (W y))/\c.cell? ⟨d+1,1,O⟩=W (.string al)/\c.cell? ⟨q,0,O⟩=W (.int I (m:Int))) dc:=⟨ae (e5.out.heap l1.out (λe=>by have:=eq.out _ e;omega)) 0,ae a2.hd 2,bs,ae (e5.out.heap kn.out (λe=>by have:=eq.out _ e;omega)) 0⟩;have hZ:Far cl dc hf:=((ξ (·=y) dc).drew.trans db).mono (λk _ e=>e ▸ a2.smb);have kr:(λc=>c.cell? ⟨d,0,O⟩=W (.pointer (W ⟨f,0,O⟩))/\c.cell? ⟨f,2,O⟩=W (.map (W y))/\c.cell? ⟨d+1,1,O⟩=W (.string al)/\c.cell? ⟨q,0,O⟩=W (.int I (m:Int))) hf:=by
      have hR:∀k,k=d\/k=d+1\/k=q->k≠y:=λk b e=>by
       have F:u y:=(gk.out).elim λ_ b=>b.elim λ_ b=>b.elim λ_ b=>b.elim λ_ b=>b.elim λ_ b=>b.smb;have:=eq.out y F;omega
      exact⟨db.at d4.1 (hR d (.inl rfl)),db.at d4.2.1 a2.ne,db.at d4.2.2.1 (hR (d+1) (.inr (.inl rfl))),db.at d4.2.2.2 (hR q (.inr (.inr rfl)))⟩
     obtain⟨q2,nd,ot,n8⟩:=zx4 lc hZ d4 kr;clear ba bs bw a6 be a5 b9 lc hZ d4 kr a2 l6 db hA i6;rw[hT]
     go_upto_region 9 with (fail)
     refine wp_region_noPanic ?_;refine ar (λc=>c.cell? ⟨d,0,O⟩=W (.pointer (W ⟨f,0,O⟩))/\c.cell? ⟨f,2,O⟩=W (.map (W y))/\c.cell? ⟨d+1,1,O⟩=W (.string al)/\c.cell? ⟨q,0,O⟩=W (.int I (m:Int))) [] (by kernel_rfl) ?_;refine aJ (by kernel_rfl) (λ_ _ _ _ b=>b) (show (λc=>c.cell? ⟨d,0,O⟩=W (.pointer (W ⟨f,0,O⟩))/\c.cell? ⟨f,2,O⟩=W (.map (W y))/\c.cell? ⟨d+1,1,O⟩=W (.string al)/\c.cell? ⟨q,0,O⟩=W (.int I (m:Int))) dc.drew from ot.out) 1 [0,1,2,3,4,5,6,7] _ _ (by kernel_rfl) ?_;iterate 8 (refine ax (v:=?_) ?_ ?_;rotate_left;·(intro he av;(try dsimp only at av);(try obtain⟨hS,hb,hM,hm⟩:=av);go_simp;try with_reducible rfl);(try go_frame))
     refine xT.done ?_;try dsimp only
     refine aq [8] ?_;refine aj rfl (λK S=>?_) xQ.nil
     go_simp
     refine S.out _ _ (λ_=>n8.out) ?_;clear S K
     (try go_frame)
     refine aP (by kernel_rfl) (NoPanic.normal ?_) _
     go_wp2_with fail
     go_meet
     case rel=>exact⟨rfl,by rw[if_neg (by simp[M])];exact⟨_,_,_,_,_,q2.out⟩,nd.out⟩
   case rest=>
    obtain⟨rfl,kl,ky⟩:=hcut;have a4:Far (λk=>u k\/q+1<=k) D wc:=(e5.out.mono (λ_ _ e=>.inl e)).step ky (λk _ e=>hB.out k e);have d6:∀k,d<=k->k<=q->¬(u k\/q+1<=k):=λk F H e=>by
     rcases e with e|e
     ·have:=eq.out k e;omega
     ·omega
    obtain⟨ba,bs,bw,a6,be,a5,b9,_⟩:=bd (a4.heap hr.out (d6 _ (by omega) (by omega)));have k5:∀c,Far (λk=>u k\/q+1<=k) D c->c.heap[d]? =W (J #[.pointer (W ⟨f,0,O⟩)] 155 (0,0))/\c.heap[d+1+1]? =W (J #[.int I (z:Int)] 3 (0,0))/\c.heap[q]? =W (J #[.int I (m:Int)] 3 (0,0)):=λc b=>⟨b.heap l1.out (d6 _ (by omega) (by omega)),b.heap p2.out (d6 _ (by omega) (by omega)),b.heap kn.out (d6 _ (by omega) (by omega))⟩;have k4:=h1.out;have fG:(l++[(⟨k,x,keys,[]⟩:Tp.Nd)])[m]? =W ⟨k,x,keys,[]⟩:=by rw[zV (by rw[a9.out];omega),a9.out,Nat.sub_self];rfl
    have l3:(l++[(⟨k,x,keys,[]⟩:Tp.Nd)]).length<=200:=by rw[zP,a9.out];show m+1<=200;omega
    have h0:(∀p∈(if name.isEmpty then A else (name,m)::A),p.1 ∉ yl kids)/\(yl kids).Nodup:=by
     have F:=f8.out.1;have H:=f8.out.2;unfold yv at F H;have bk:=List.nodup_append.1 H;refine⟨λp ab co=>?_,bk.2.1⟩;by_cases dr:name.isEmpty=true
     ·rw[if_pos dr]at ab
      exact F p ab (List.mem_append_right _ co)
     ·rw[if_neg dr]at ab
      rcases List.mem_cons.1 ab with rfl|ab
      ·have g0:¬(k=3\/name=[]):=by simp[e1];simpa using dr
       rw[if_neg g0]at bk;exact bk.2.2 name (by simp) name co rfl
      ·exact F p ab (List.mem_append_right _ co)
    have la:yL wc f y cl (l++[(⟨k,x,keys,[]⟩:Tp.Nd)]) (if name.isEmpty then A else (name,m)::A):=kl;have m4:=hB.out;have dp:=zD (θ k4 (θ fG (θ l3 (θ h0 (θ la (θ m4 a4))))));obtain⟨m2,oi⟩:=zx2 k5 d6;clear k4 fG l3 h0 la m4 a4 kl ky k5 d6 hB e5 hu h1 f8 hr
    go_wp2_with fail
    go_loopw [78] (λfr wr=>∃(r:Nat) (df:NS) (b4:List Tp.Nd) (c1:List (Tp.B × Nat)) (g5:Tp.Nd),fr=.int I (r:Int)/\r<=L/\Tp.layL (z+1) m (kids.drop r) (b4,c1)=W (d0,da)/\b4[m]? =W g5/\g5.kids.length=r/\b4.length<=200/\((∀p∈c1,p.1 ∉ yl (kids.drop r))/\(yl (kids.drop r)).Nodup)/\yL wr f y df b4 c1/\(∀k,df k->u k\/q+1<=k)/\Far (λk=>u k\/q+1<=k) D wr) (λfr _=>L - (Lib.intOf fr).toNat)
    case atStart=>exact⟨0,cl,_,_,_,rfl,z_ _,by rw[List.drop_zero];exact dp.out.1,dp.out.2.1,rfl,dp.out.2.2.1,by rw[List.drop_zero];exact dp.out.2.2.2.1,dp.out.2.2.2.2.1,dp.out.2.2.2.2.2.1,dp.out.2.2.2.2.2.2⟩
    case round=>
     obtain⟨r,df,b4,c1,g5,rfl,rv,a3,hz,h9,hD,M,g1,dn,a4⟩:=hrel;by_cases k3:r < L
     ·obtain⟨P,e8⟩:∃P,kids[r]? =W P:=⟨_,zE (by rw[er.out.1];exact k3)⟩
      rw[aE kids r P e8]at a3 M;unfold Tp.layL at a3;unfold yl at M;cases c9:Tp.lay (z+1) P (b4,c1) with
      |none=>rw[c9]at a3;cases a3
      |some vv=>
      obtain⟨d2,en,es⟩:=vv;rw[c9]at a3;simp only at a3;obtain⟨v,ei,rfl,no,c0⟩:=oj.out r P e8;have oe:=gp kids r P e8;obtain⟨b5,b3,cc,cf,b6,cb,bR,ca,bD,b1,ch,rfl⟩:=ei.form;have gc:∀k,a0 k->¬(u k\/q+1<=k):=λk R e=>by
       have:=i1.out k R;rcases e with e|e
       ·exact this.2 e
       ·have:=f1.out;omega
      have hW:Far (λk=>u k\/q+1<=k) w wr:=(hs.out.mono (λ_ _ e=>e.elim)).trans a4;have ct:∀i cv,w.cell? ⟨g,o+r * 7+i,O⟩=W cv->wr.cell? ⟨g,o+r * 7+i,O⟩=W cv:=λi cv b=>hW.at b (gc g no);have gr:wr.cell? ⟨g,o+r * 7,O⟩=W (.int I b5):=ct 0 _ (c0 0 (by omega) _ rfl);have e4:wr.cell? ⟨g,o+r * 7+1,O⟩=W (.string b3):=ct 1 _ (c0 1 (by omega) _ rfl);have f7:wr.cell? ⟨g,o+r * 7+2,O⟩=W (.int I cc):=ct 2 _ (c0 2 (by omega) _ rfl);have c3:wr.cell? ⟨g,o+r * 7+3,O⟩=W (.int I cf):=ct 3 _ (c0 3 (by omega) _ rfl);have c4:wr.cell? ⟨g,o+r * 7+4,O⟩=W (.string b6):=ct 4 _ (c0 4 (by omega) _ rfl);have c5:wr.cell? ⟨g,o+r * 7+5,O⟩=W (Y cb bR ca):=ct 5 _ (c0 5 (by omega) _ rfl);have pc:wr.cell? ⟨g,o+r * 7+6,O⟩=W (Y bD b1 ch):=ct 6 _ (c0 6 (by omega) _ rfl);have o2:(r:Int) < (L:Int):=by omega
      have q9:(0:Int)<=(r:Int):=by omega
      obtain⟨c6,hv⟩:∃c,wr.alloc (J (#[.int I b5,.string b3,.int I cc,.int I cf,.string b6,Y cb bR ca,Y bD b1 ch]) 78)=c:=⟨_,rfl⟩;have hh:Far xO wr c6:=by rw[<-hv];exact(ξ _ wr).alloc _
      have lr:c6.heap[wr.heap.size]? =W (J (#[.int I b5,.string b3,.int I cc,.int I cf,.string b6,Y cb bR ca,Y bD b1 ch]) 78 (0,0)):=by rw[<-hv];exact af wr _
      have g8:Far (λk=>u k\/q+1<=k) D c6:=a4.step hh (λ_ _ e=>e.elim);have p5:=(g8.alloc (J (#[.int I b5,.string b3,.int I cc,.int I cf,.string b6,Y cb bR ca,Y bD b1 ch]) 78));have hV:Far xO wr (c6.alloc (J (#[.int I b5,.string b3,.int I cc,.int I cf,.string b6,Y cb bR ca,Y bD b1 ch]) 78)):=hh.alloc _;have g4:Far (λk=>u k\/q+1<=k) w (c6.alloc (J (#[.int I b5,.string b3,.int I cc,.int I cf,.string b6,Y cb bR ca,Y bD b1 ch]) 78)):=hW.step hV (λ_ _ e=>e.elim);obtain⟨k2,k0,e6⟩:=m2.out c6 g8;have gd:∀k,d<=k->k<=q->¬df k:=λk F H e=>oi.out k F H (dn k e);have hq:∀k,u k\/q+1<=k->10<=k:=λk e=>by
       rcases e with e|e
       ·exact p4.out k e
       ·have k6:=l7.out.1;have:=f1.out;omega
      have e9:=n0.out f y P [.int I b5,.string b3,.int I cc,.int I cf,.string b6,Y cb bR ca,Y bD b1 ch] a0 df b4 en c1 es d2 (c6.alloc (J (#[.int I b5,.string b3,.int I cc,.int I cf,.string b6,Y cb bR ca,Y bD b1 ch]) 78)) (by have:=np.out;omega) (xS.far g4 (λk R _=>gc k R) _ _ ei) (yE.at kids r P qk.out e8) (g1.far hV (λ_ _ e=>e)) (λk R=>⟨zK (i1.out k R).1 g4.size,λe=>gc k R (dn k e)⟩) (l7.out.far g4 (λk R e=>by have:=hq k e;omega)) (λk R=>hq k (dn k R)) c9 (λp ab co=>M.1 p ab (List.mem_append_left _ co)) (List.nodup_append.1 M.2).1 hD;have hK:=vz c9 hz;have mb:=oX f y d (d+1+1) q m z d2 [.int I b5,.string b3,.int I cc,.int I cf,.string b6,Y cb bR ca,Y bD b1 ch] df en es g5 c6 ⟨_,_,_,_,_,_,_,_,_,_,_,rfl⟩ k2 k0 e6 ⟨gd d (by omega) (by omega),gd _ (by omega) (by omega),gd q (by omega) (by omega)⟩ (by omega) hK (by omega) e9;have ft:(∀p∈es,p.1 ∉ yl (kids.drop (r+1)))/\(yl (kids.drop (r+1))).Nodup:=by
       obtain⟨_,q4,_⟩:=lay_ext P (z+1) b4 c1 d2 en es c9;have bk:=List.nodup_append.1 M.2;refine⟨λp ab co=>?_,bk.2.1⟩;rcases q4 p ab with b|b
       ·exact M.1 p b (List.mem_append_right _ co)
       ·exact bk.2.2 p.1 b p.1 co rfl
      have kb:(Tp.addKid m d2 en).length<=200:=by
       unfold Tp.addKid;rw[List.length_modify];exact(lay_ext P (z+1) b4 c1 d2 en es c9).2.2 hD
      have m3:=sO d2 hK;have it:=zD mb;have b8:=zD (θ a3 (θ m3 (θ kb (θ ft (θ dn (θ g8 h9))))));obtain⟨n5,ns,nb,pa,nx,pr,nf,_⟩:=bd lr;clear mb a3 m3 kb ft dn g8 p5 e9 hK c9 M g1 a4 hD ei c0 ct gc hW hh lr hV g4 k2 k0 e6 gd hq hz oe e8 h9
      go_wp2_with fail
      refine it.out.mono ?_;rintro e w5 ⟨rfl,kc,kg,j9,d5⟩;have g3:=b8.out.2.2.2.2.2.1.size;have l2:∀k,kc k->u k\/q+1<=k:=λk b=>by
       rcases j9 k b with b|b
       ·exact b8.out.2.2.2.2.1 k b
       ·right;omega
      have md:Far (λk=>u k\/q+1<=k) D w5:=b8.out.2.2.2.2.2.1.step d5 (λk _ e=>b8.out.2.2.2.2.1 k e);have n3:=zD (θ kg (θ l2 md));clear kg j9 d5 l2 md it gr e4 f7 c3 c4 c5 pc n5 ns nb pa nx pr nf hv
      go_wp2_with fail
      go_roundw
      case rel=>exact⟨r+1,kc,_,_,_,by go_num,k3,b8.out.1,b8.out.2.1,by rw[zP,b8.out.2.2.2.2.2.2];rfl,b8.out.2.2.1,b8.out.2.2.2.1,n3.out⟩
      case measure=>simp[Lib.intOf];omega
     ·obtain rfl:r=L:=by omega
      rw[List.drop_of_length_le (by rw[er.out.1];exact η _)]at a3;unfold Tp.layL at a3;cases a3
      have o2:¬(r:Int) < (r:Int):=by omega
      obtain⟨_,_,e6⟩:=m2.out wr a4;obtain⟨r1,_⟩:=sS e6;have i5:Far u w wr:=(hs.out.mono (D':=u) (λ_ _ e=>e.elim)).step a4 (λk R e=>by
       rcases e with e|e
       ·exact e
       ·have:=f1.out;omega)
      have ht:=zD (θ g1 (θ dn i5));clear g1 dn i5 a4 M hz e6
      go_wp2_with fail
      go_ret2
      exact⟨by rw[a9.out];rfl,df,ht.out.1,λk R=>by
       rcases ht.out.2.1 k R with b|b
       ·exact .inl b
       ·right;have:=f1.out;omega,ht.out.2.2⟩
end
section
attribute [local go_sem] ak
theorem kp{w:World}{a:NS}:∀(l:List Tp.Nd) (b:List (Value × Value)),b.length=l.length->(∀(i:Nat) (x:Tp.Nd) (p:Value × Value),l[i]? =W x->b[i]? =W p->Row w a x.keys.length p.1 (xV x.keys)/\Row w a x.kids.length p.2 (xP x.kids))->xX w a l (yf l b)
 | [],[],_,_=>by unfold xX yf;rfl
 | [],_::_,h,_=>by simp at h
 |_::_,[],h,_=>by simp at h
 |x::r,p::s,h,hh=>by
  unfold xX yf;obtain⟨g,f⟩:=hh 0 x p rfl rfl;exact⟨p.1,p.2,_,rfl,g,f,kp r s (by simpa using h) (λi c q e d=>hh (i+1) c q (by simpa using e) (by simpa using d))⟩
theorem yL.gr{c:NS}{w:World}{f e:Nat}{l:List Tp.Nd}{m:List (Tp.B × Nat)}(q:yL w f e c l m):∃v,w.heap[f]? =W (J #[V I 0,v,.map (W e)] 158 (0,0))/\yc w c l v:=by
 obtain⟨s,r,t,d,u,a⟩:=q;obtain rfl:=a.sn;refine⟨_,a.hd,yf l d,(cx a.row).mono (λk b _=>(a.ownL k b).1),kp l d a.len (λi x p o g=>?_)⟩;obtain⟨n,j⟩:=a.nds i x p o g;exact⟨n.mono (λk b _=>(a.kg k b).1),(cx j).mono (λk b _=>(a.ownK i p k g b).1)⟩
theorem sQ(t:Tp.Tree)(an:List Value)(N:NS)(g:List Tp.Nd)(w:World)(R:xS w N t an)(a6:zb t)(M:Glob w)(G:∀k,N k->k < w.heap.size)(S:Tp.graph t=W g)(bs:(yv t).Nodup)(cc:Tp.depth t<=900):
 Calls π 55 #[γ an.toArray] w λe w'=>(∃ba,e=ρ (.tuple #[γ #[.int I 0,ba],.int I 0])/\yc w' (New w) g ba)/\Below w.heap.size w w':=by
 obtain⟨a,A⟩:∃a,w.heap.size=a:=⟨_,rfl⟩;unfold Tp.graph at S;obtain⟨⟨i,a1,b1⟩,av,ca⟩:=zN.1 S;clear S;cases ca
 obtain⟨n,l,u,y,s,r,f,o,d,m,c,rfl⟩:=R.form;have C:Far xO w ((((w.alloc (J #[.int I n,.string l,.int I u,.int I y,.string s,Y r f o,Y d m c] 78)).alloc (J #[.int I 0,Y O 0 0] 54)).alloc (.map #[] 0)).alloc (J #[.int I 0,Y O 0 0,.map (W (a+1+1))] 158)):=((((ξ _ w).alloc _).alloc _).alloc _).alloc _;have al:((((w.alloc (J #[.int I n,.string l,.int I u,.int I y,.string s,Y r f o,Y d m c] 78)).alloc (J #[.int I 0,Y O 0 0] 54)).alloc (.map #[] 0)).alloc (J #[.int I 0,Y O 0 0,.map (W (a+1+1))] 158)).heap[a]? =W (J #[.int I n,.string l,.int I u,.int I y,.string s,Y r f o,Y d m c] 78 (0,0)):=by rw[<-A];exact aa _ (aa _ (aa _ (af w _)))
 have a0:((((w.alloc (J #[.int I n,.string l,.int I u,.int I y,.string s,Y r f o,Y d m c] 78)).alloc (J #[.int I 0,Y O 0 0] 54)).alloc (.map #[] 0)).alloc (J #[.int I 0,Y O 0 0,.map (W (a+1+1))] 158)).heap[a+1]? =W (J #[.int I 0,Y O 0 0] 54 (0,0)):=aa _ (aa _ (ah _ _ _ (by simp[A])));have bx:((((w.alloc (J #[.int I n,.string l,.int I u,.int I y,.string s,Y r f o,Y d m c] 78)).alloc (J #[.int I 0,Y O 0 0] 54)).alloc (.map #[] 0)).alloc (J #[.int I 0,Y O 0 0,.map (W (a+1+1))] 158)).heap[a+1+1+1]? =W (J #[.int I 0,Y O 0 0,.map (W (a+1+1))] 158 (0,0)):=ah _ _ _ (by simp[A]);have a9:xW π 9 ((((w.alloc (J #[.int I n,.string l,.int I u,.int I y,.string s,Y r f o,Y d m c] 78)).alloc (J #[.int I 0,Y O 0 0] 54)).alloc (.map #[] 0)).alloc (J #[.int I 0,Y O 0 0,.map (W (a+1+1))] 158)) (a+1+1) []:=by
  have b:=aL (P:=π) (K:=9) ((w.alloc (J #[.int I n,.string l,.int I u,.int I y,.string s,Y r f o,Y d m c] 78)).alloc (J #[.int I 0,Y O 0 0] 54));rw[show ((w.alloc (J #[.int I n,.string l,.int I u,.int I y,.string s,Y r f o,Y d m c] 78)).alloc (J #[.int I 0,Y O 0 0] 54)).heap.size=a+1+1 by simp[A]]at b;exact b.far ((ξ xO _).alloc _) id
 have L:((((w.alloc (J #[.int I n,.string l,.int I u,.int I y,.string s,Y r f o,Y d m c] 78)).alloc (J #[.int I 0,Y O 0 0] 54)).alloc (.map #[] 0)).alloc (J #[.int I 0,Y O 0 0,.map (W (a+1+1))] 158)).heap.size=a+4:=by simp[A]
 have a2:yL ((((w.alloc (J #[.int I n,.string l,.int I u,.int I y,.string s,Y r f o,Y d m c] 78)).alloc (J #[.int I 0,Y O 0 0] 54)).alloc (.map #[] 0)).alloc (J #[.int I 0,Y O 0 0,.map (W (a+1+1))] 158)) (a+1+1+1) (a+1+1) (λk=>k=a+1+1+1\/k=a+1+1) [] []:=⟨O,0,0,[],λ_=>False,bx,World.ownsRow_nil _ _ _ _,rfl,λi x p b=>by simp at b,λk b=>by simp[Value.ownBlock]at b,λi p k b=>by simp at b,λi j p q k _ b=>by simp at b,λk b=>b.elim,a9,by simp,λk b=>by rw[L];omega,.inl rfl,.inr rfl,by omega⟩;have cb:=M.1;have a3:=nF 900 1 (a+1+1+1) (a+1+1) t [.int I n,.string l,.int I u,.int I y,.string s,Y r f o,Y d m c] N (λk=>k=a+1+1+1\/k=a+1+1) [] a1 [] b1 i ((((w.alloc (J #[.int I n,.string l,.int I u,.int I y,.string s,Y r f o,Y d m c] 78)).alloc (J #[.int I 0,Y O 0 0] 54)).alloc (.map #[] 0)).alloc (J #[.int I 0,Y O 0 0,.map (W (a+1+1))] 158)) cc (xS.far C (λ_ _ _ e=>e) _ _ R) a6 a2 (λk z=>⟨zK (G k z) C.size,λe=>by have:=G k z;omega⟩) (M.far C (λ_ _ e=>e)) (λk z=>by omega) av (by simp) bs (by simp) (by omega);obtain⟨bk,ab,b5,ac,b0⟩:=zx5 a3 C a0 A L;obtain⟨bR,b8,ch,b4,bD,b2,ck,_⟩:=bd al;have c1:=@run_makeMap π;clear L a3 C al a0 bx a9 a2 R a6 M G av bs cb
 go_enter func55,ntmps55
 go_upto_region 2 with (fail)
 clear A;generalize ((((w.alloc (J #[.int I n,.string l,.int I u,.int I y,.string s,Y r f o,Y d m c] 78)).alloc (J #[.int I 0,Y O 0 0] 54)).alloc (.map #[] 0)).alloc (J #[.int I 0,Y O 0 0,.map (W (a+1+1))] 158))=ct at *
 go_wp2_with fail
 refine bk.out.mono ?_;rintro e cf ⟨rfl,b9,be,bn,F⟩;obtain⟨v,X,E⟩:=be.gr;obtain⟨ao,bw,rfl,_⟩:=E.form;obtain⟨D,bb⟩:∃D,a1.length=D:=⟨_,rfl⟩;rw[bb]at X E;have ad:=F.heap b5.out (by omega);obtain⟨c0,co,_⟩:=bv X;obtain⟨cv,cm,u0,u1⟩:=bO ad;obtain⟨bm,H⟩:=wZ ad (.int I 0) (Y ao D bw);have T:∀k,b9 k->a<=k/\k≠a+1:=λk z=>by
  rcases bn k z with b|b
  ·omega
  ·have:=b0.out;omega
 have a5:=(E.far H (λk z _ e=>(T k z).2 e)).mono (G':=New w) (λk z _=>by have:=T k z;have:=ac.out;show w.heap.size<=k;omega);have a4:Below w.heap.size w ((cf.setCell ⟨a+1,0,O⟩ (.int I 0)).setCell ⟨a+1,1,O⟩ (Y ao D bw)):=((ab.out.to_below (η _) (λ_ _ e=>e)).trans (F.to_below ab.out.size (λk z e=>by have:=ac.out;omega))).trans (H.to_below (by have:=ab.out.size;have:=F.size;omega) (λk z e=>by have:=ac.out;omega));obtain⟨b3,b6,cl⟩:=zx3 a5 a4 bm;clear a5 a4 bm H ad E X be bn F bk T bR b8 ch b4 bD b2 ck bb
 go_wp2_with fail
 exact bodyPost_ret (fA results55 _ (a+1) _ _ _ cl.out rfl) rfl ⟨⟨_,rfl,b3.out⟩,b6.out⟩
end
end Go.Proofs.YtbikgdhbiebhcaaGreatDoor
