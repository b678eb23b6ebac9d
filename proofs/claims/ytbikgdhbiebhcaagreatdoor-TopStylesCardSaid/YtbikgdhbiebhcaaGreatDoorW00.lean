/- Part 0. -/
import Derived.WalkKit
import Derived.WalkSmall
import Derived.Test.YtbikgdhbiebhcaaGreatDoorProg
import Derived.Lib.Hide
import Derived.Laws.Runes
import Derived.OwnWalk
import Derived.TacticsInMore
import Derived.Sort.WalkA
import Derived.Shelf.Strings.Builder1
import Derived.Shelf.Strings.Builder2
import Derived.Shelf.Strings.OnBuilder
import Derived.Shelf.Strings.Trim
import Derived.Shelf.Small.Utf8
import Derived.Shelf.Small.Strs
import Derived.Shelf.Small.Wraps
import Derived.Shelf.Strings.BuilderF
import Derived.Shelf.Strings.BuilderK
import Derived.Shelf.Strings.BuilderRune
import Derived.Shelf.Utf8.AppendRune
import Derived.Shelf.Strconv.Atoi
import Derived.Shelf.Strconv.Itoa0
import Derived.Shelf.Strconv.Itoa1
import Derived.Shelf.LaysM
import Derived.Shelf.Strconv.Itoa2
import Derived.Shelf.Strconv.Itoa3
import Derived.Shelf.Strings.Search1
import Derived.Shelf.Strings.Search2
import Derived.Shelf.Strings.Cut
import Derived.Shelf.Strings.Shaped
import Derived.Shelf.GgClosure.StringsIndexFunc
import Derived.Shelf.GgClosure.StringsTrimFunc
import Derived.Ground.GgwProg
import Derived.Shelf.GgClosure.StringsIndexFuncTop
import Derived.Shelf.GgClosure.StringsRunes
import Derived.Shelf.Strings.Prefix
import Derived.Shelf.Unicode.Decode
import Derived.Shelf.Strings.Runes
import Derived.Shelf.Strings.AsciiSet
import Derived.Shelf.Bits.Mul64
import Derived.Shelf.Strings.Repeat
import Derived.Shelf.Unicode.DecodeSlow
import Derived.Shelf.Unicode.DecodeAny
import Derived.Shelf.Unicode.DecodeLast
import Derived.Shelf.Strings.FuncGrows
import Derived.Ground.Names2Prog
import Derived.Shelf.Slices.Clone
import Derived.Shelf.Slices.SearchI
import Derived.Ground.SlgnProg
import Derived.Shelf.SlicesE.Index
import Derived.Shelf.SlicesE.Equal
import Derived.Shelf.SlicesE.Clone
import Derived.Ground.SlgfProg
import Derived.Shelf.SlicesE.IndexFunc
import Derived.Maps.AppendAt
import Derived.Lib.QuoteLoop
import Derived.Maps.Keyed
import Derived.Lib.DecodeN
import Derived.Lib.IndexMore
import Derived.Lib.TrimByte
import Derived.Lib.OthersKept
import Derived.Maps.RangeWalk
set_option linter.unusedVariables false
set_option linter.unusedSimpArgs false
set_option maxRecDepth 100000
set_option maxHeartbeats 2000000
theorem zF {w : Go.World} {q : Nat} {cs : Array Go.Value} {T : Go.TypeId} {fr : Nat × Nat} (h : w.heap[q]? = some (.cells cs T fr)) (i : Nat) {v : Go.Value} (hv : cs[i]? = some v) : w.cell? ⟨q, i, none⟩ = some v := by simp [Go.World.cell?, h, hv]
theorem zA {α : Type _} (l : List α) (i : Nat) (a : α) : l.toArray.setIfInBounds i a = (l.set i a).toArray := List.setIfInBounds_toArray ..
theorem zB {α : Type _} (a b : α) (l : List α) : (a :: l).set 0 b = b :: l := List.set_cons_zero ..
theorem zC {α : Type _} (a b : α) (l : List α) (n : Nat) : (a :: l).set (n + 1) b = a :: l.set n b := List.set_cons_succ ..
theorem zD {p : Prop} (h : p) : Go.RowKit.Hid p := Go.Lib.hid h
theorem zH {α : Type _} {l : List α} {i : Nat} (h : i < l.toArray.size) : l.toArray[i] = l[i]'(by simpa using h) := List.getElem_toArray ..
theorem zI {α : Type _} (a : α) (l : List α) (i : Nat) (h : i + 1 < (a :: l).length) : (a :: l)[i + 1] = l[i]'(Nat.lt_of_succ_lt_succ h) := List.getElem_cons_succ ..
theorem zJ {α : Type _} {a : α} {l : List α} {h : 0 < (a :: l).length} : (a :: l)[0] = a := List.getElem_cons_zero ..
abbrev zK := @Nat.lt_of_lt_of_le
abbrev zL := @List.mem_of_getElem?
abbrev zM := @List.getElem?_eq_some_iff
abbrev zN := @Option.map_eq_some_iff
abbrev zO := @List.length_cons
abbrev zP := @List.length_append
abbrev zQ := @Bool.and_eq_true
abbrev zR := @List.take_of_length_le
abbrev zG := @List.take_add_one
abbrev z_ := @Nat.zero_le
abbrev zU := @Go.IntWalk.i64_in
abbrev zV := @List.getElem?_append_right
abbrev zW := @List.drop_eq_getElem_cons
abbrev zX := @ByteArray.size_append
abbrev zY := @List.getD_eq_getElem?_getD
abbrev zZ := @List.length_drop
theorem zx2 {a b : Prop} (x : a) (y : b) : Go.RowKit.Hid a /\ Go.RowKit.Hid b := ⟨zD x, zD y⟩
theorem zx3 {a b c : Prop} (x : a) (y : b) (z : c) : Go.RowKit.Hid a /\ Go.RowKit.Hid b /\ Go.RowKit.Hid c := ⟨zD x, zx2 y z⟩
theorem zx4 {a b c d : Prop} (x : a) (y : b) (z : c) (u : d) : Go.RowKit.Hid a /\ Go.RowKit.Hid b /\ Go.RowKit.Hid c /\ Go.RowKit.Hid d := ⟨zD x, zx3 y z u⟩
theorem zx5 {a b c d e : Prop} (x : a) (y : b) (z : c) (u : d) (v : e) : Go.RowKit.Hid a /\ Go.RowKit.Hid b /\ Go.RowKit.Hid c /\ Go.RowKit.Hid d /\ Go.RowKit.Hid e := ⟨zD x, zx4 y z u v⟩
theorem zx6 {a b c d e f : Prop} (x : a) (y : b) (z : c) (u : d) (v : e) (w : f) : Go.RowKit.Hid a /\ Go.RowKit.Hid b /\ Go.RowKit.Hid c /\ Go.RowKit.Hid d /\ Go.RowKit.Hid e /\ Go.RowKit.Hid f := ⟨zD x, zx5 y z u v w⟩
theorem zE {α : Type _} {l : List α} {i : Nat} (h : i < l.length) : l[i]? = some l[i] := List.getElem?_eq_getElem h
open Go.Value renaming int -> V, string -> U, slice -> Y, pointer -> Z, func -> φ, bool -> β
open Go.IntKind renaming i64 -> I
open Option renaming some -> W, none -> O
open Go.Obj renaming cells -> J
open Go.Ending renaming returned -> ρ
open Go.Proofs.Tryz renaming prog -> π
open Nat renaming le_refl -> η
open Go.RowKit.Below renaming refl -> ζ
namespace Go.Proofs.YtbikgdhbiebhcaaGreatDoor
open Go.RowKit Tryz
structure Far(D:Nat->Prop)(w w':World):Prop where
 os:w'.os=w.os
 tape:w'.tape=w.tape
 output:w'.output=w.output
 size:w.heap.size<=w'.heap.size
 block:∀k,k < w.heap.size->¬D k->w'.heap[k]? =w.heap[k]?
def xO:Nat->Prop:=λ_=>False
theorem ξ(D:Nat->Prop)(w:World):Far D w w:=⟨rfl,rfl,rfl,η _,λ_ _ _=>rfl⟩
theorem Far.step{D D':Nat->Prop}{a d f:World}(b:Far D a d)(k:Far D' d f)(j:∀i,i < a.heap.size->D' i->D i):Far D a f:=
 ⟨k.os.trans b.os,k.tape.trans b.tape,k.output.trans b.output,Nat.le_trans b.size k.size,
  λi c g=>(k.block i (zK c b.size) (λe=>g (j i c e))).trans (b.block i c g)⟩
theorem Far.trans{D:Nat->Prop}{a b c:World}(d:Far D a b)(k:Far D b c):Far D a c:=d.step k λ_ _ e=>e
theorem Far.mono{D D':Nat->Prop}{a c:World}(b:Far D a c)(f:∀i,i < a.heap.size->D i->D' i):Far D' a c:=⟨b.os,b.tape,b.output,b.size,λi d g=>b.block i d (λe=>g (f i d e))⟩
theorem Far.alloc{D:Nat->Prop}{a b:World}(d:Far D a b)(o:Obj):Far D a (b.alloc o):=
 d.trans ⟨rfl,rfl,rfl,by simp,λk c _=>Below.heap_alloc _ _ _ c⟩
theorem Far.drew{D:Nat->Prop}{a c:World}(b:Far D a c):Far D a c.drew:=⟨b.os,b.tape,b.output,b.size,b.block⟩
theorem Far.drewN{D:Nat->Prop}{a b:World}(c:Far D a b)(n:Nat):Far D a (b.drewN n):=c.trans ⟨rfl,rfl,rfl,η _,λ_ _ _=>rfl⟩
theorem Far.setCell{D:Nat->Prop}{a b:World}(f:Far D a b){p:Addr}(c:p.block < a.heap.size->D p.block)(d:Value):Far D a (b.setCell p d):=
 f.step (D':=(·=p.block)) ⟨rfl,rfl,rfl,by simp[World.setCell],λk _ j=>Below.heap_setCell _ _ _ _ j⟩ (λi g e=>by subst e;exact c g)
theorem Far.below{D:Nat->Prop}{a b c:World}(d:Far D a b)(k:Below b.heap.size b c):Far D a c:=
 d.step (D':=xO) ⟨k.os,k.tape,k.output,k.size,λi f _=>k.block i f⟩ (λ_ _ e=>e.elim)
theorem Far.of_below{a b:World}(k:Below a.heap.size a b)(D:Nat->Prop):Far D a b:=(ξ D a).below k
theorem Far.to_below{a c:World}{B:Nat}{D:Nat->Prop}(b:Far D a c)(e:B<=a.heap.size)(f:∀i,i < B->¬D i):Below B a c:=
 ⟨b.os,b.tape,b.output,b.size,λi d=>b.block i (zK d e) (f i d)⟩
theorem Far.grown{D:Nat->Prop}{a d f:World}{row:Option Nat}(g:Far D a d)(b:d.grownBy f row)(j:∀k,row=W k->k < a.heap.size->D k):Far D a f:=
 g.step (D':=λi=>row=W i) ⟨b.os,b.tape,b.output,b.size,λi c l=>b.block i c (λe=>l e.symm)⟩ (λi c e=>j i e c)
theorem Far.cell{D:Nat->Prop}{a b:World}(d:Far D a b){p:Addr}(c:p.block < a.heap.size)(e:¬D p.block):b.cell? p=a.cell? p:=World.cell?_of_block (w:=a) (d.block p.block c e)
theorem Far.frozen{D:Nat->Prop}{a b:World}(d:Far D a b){p:Addr}(c:p.block < a.heap.size)(e:¬D p.block):b.frozen? p=a.frozen? p:=World.frozen?_of_block (w:=a) (d.block p.block c e)
theorem lt_of_heap{w:World}{a:Nat}{o:Obj}(b:w.heap[a]? =W o):a < w.heap.size:=(Array.getElem?_eq_some_iff.1 b).1
theorem ae{w:World}{a:Nat}{b:Array Value}{T:TypeId}{d:Nat × Nat}(c:w.heap[a]? =W (J b T d))(j:Nat):w.cell? ⟨a,j,O⟩=b[j]?:=by simp[World.cell?,c]
theorem ag{w:World}{a:Nat}{c:Array Value}{T:TypeId}(b:w.heap[a]? =W (J c T (0,0)))(j:Nat):w.frozen? ⟨a,j,O⟩=false:=by simp[World.frozen?,b]
theorem ai{w:World}{a:Nat}{b:Array Value}{T:TypeId}{c:Nat × Nat}(d:w.heap[a]? =W (J b T c))(j:Nat)(v:Value):
 (w.setCell ⟨a,j,O⟩ v).heap[a]? =W (J (b.setIfInBounds j v) T c):=by
 rw[setCell_eq_setRow w a j b T c v d];exact setRow_heap w a b _ T c d
theorem af(w:World)(o:Obj):(w.alloc o).heap[w.heap.size]? =W o:=by
 show (w.heap.push o)[w.heap.size]? =W o;simp
theorem ah(w:World)(o:Obj)(n:Nat)(a:n=w.heap.size):(w.alloc o).heap[n]? =W o:=by subst a;exact af w o
theorem aa{w:World}{a:Nat}{x:Obj}(o:Obj)(b:w.heap[a]? =W x):(w.alloc o).heap[a]? =W x:=(Below.heap_alloc w o a (lt_of_heap b)).trans b
theorem Far.heap{D:Nat->Prop}{a c:World}(d:Far D a c){k:Nat}{x:Obj}(b:a.heap[k]? =W x)(e:¬D k):c.heap[k]? =W x:=(d.block k (lt_of_heap b) e).trans b
theorem aY{w:World}{a:Array Value}{t:TypeId}{n i:Nat}{v:Value}(c:n=w.heap.size)(b:a[i]? =W v):(w.alloc (J a t)).cell? ⟨n,i,O⟩=W v:=by
 subst c;exact(World.cell?_alloc_new _ _ _ _).trans b
theorem aK{w:World}{o:Obj}{n i:Nat}{v:Value}(b:n < w.heap.size)(a:w.cell? ⟨n,i,O⟩=W v):(w.alloc o).cell? ⟨n,i,O⟩=W v:=
 (World.cell?_alloc_lt w o ⟨n,i,O⟩ b).trans a
theorem aw{D:Nat->Prop}{w w':World}{base:Nat}{e:TypeId}{size:Nat}{v:Value}{n:Nat}{xs:List Value}(c:w.ownsRow base e size v n xs)(i:Far D w w')(d:∀k,base<=k->k < w.heap.size->¬D k):w'.ownsRow base e size v n xs:=by
 refine⟨c.1,?_⟩;rcases c.2 with j|⟨g,cap,f,rfl,a,b,rest⟩
 ·exact .inl j
 ·exact .inr ⟨g,cap,f,rfl,a,i.heap b (d g a (lt_of_heap b)),rest⟩
theorem aA{w:World}{base:Nat}{e:TypeId}{size:Nat}{v:Value}{n:Nat}{xs:List Value}(a:w.ownsRow base e size v (n+1) xs):∃g cap,v=Y (W ⟨g,0,O⟩) (n+1) cap/\base<=g/\g < w.heap.size:=by
 rcases a.2 with ⟨_,f⟩|⟨g,cap,d,rfl,b,c,_⟩
 ·omega
 ·exact⟨g,cap,rfl,b,lt_of_heap c⟩
theorem ak(w:World)(a:Addr)(v f:Value):(w.setCell a v).setCell a f=w.setCell a f:=by
 have k:∀(d:Array Obj) (b:Nat) (c g:Obj->Obj),(∀o,g (c o)=g o)->(d.modify b c).modify b g=d.modify b g:=by
  intro d b c g j;apply Array.ext
  ·simp
  ·intro i m l
   simp only[Array.getElem_modify];by_cases e:b=i
   ·simp[e,j]
   ·simp[e]
 unfold World.setCell;simp only;rw[k];intro o;cases o<;>simp
 split<;>simp
end Go.Proofs.YtbikgdhbiebhcaaGreatDoor
namespace Tp
abbrev B:=List UInt8
structure Sc where
 k:Int
 n:Int
 s:B
deriving DecidableEq,Repr
def Sc.null:Sc:=⟨0,0,[]⟩
structure Tk where
 k:Int
 s:B
 a:Nat
deriving DecidableEq,Repr
def hexD(n:Nat):UInt8:=UInt8.ofNat (if n < 10 then 48+n else 87+n)
def esc(a:UInt8):B:=
 if a.toNat=10 then [92,110]else if a.toNat=9 then [92,116]else if a.toNat=13 then [92,114]
 else if a.toNat=34\/a.toNat=92 then [92,a]
 else if a.toNat < 32\/a.toNat=127 then [92,120,hexD (a.toNat / 16),hexD (a.toNat % 16)]else [a]
def quote(s:B):B:=34::(s.flatMap esc++[34])
def unhexD(a:UInt8):Option Nat:=
 if 48<=a.toNat/\a.toNat<=57 then W (a.toNat - 48)else if 97<=a.toNat/\a.toNat<=102 then W (a.toNat - 87)else O
def escd:B->Option (UInt8 × Nat)
 | []=>O
 |c::t=>
  if c.toNat=34\/c.toNat=92 then W (c,1)
  else if c.toNat=110 then W (10,1)else if c.toNat=116 then W (9,1)else if c.toNat=114 then W (13,1)
  else if c.toNat=120 then
   match t with
   |h::l::_=>match unhexD h,unhexD l with
    |some x,W y=>if x < 8 then W (UInt8.ofNat (16 * x+y),3)else O
    |_,_=>O
   |_=>O
  else O
def unq(q:UInt8):Nat->B->Option (B × B)
 |0,_=>O
 |n+1,l=>
  match l with
  | []=>O
  |c::t=>
   if c=q then (if c.toNat=39/\t.head? =W c then O else W ([],t))
   else if c.toNat=92 then if q.toNat=39 then O else
    match escd t with
    |some (b,m)=>(unq q n (t.drop m)).map λx=>(b::x.1,x.2)
    |none=>O
   else if c.toNat < 32\/c.toNat=127 then O
   else (unq q n t).map λx=>(c::x.1,x.2)
def isB:B->Bool
 | []=>true
 |c::_=>c.toNat==32
def flowC(a:UInt8):Bool:=a.toNat==44||a.toNat==91||a.toNat==93||a.toNat==123||a.toNat==125
def closed(a:Nat)(l:B):Bool:=isB l||(decide (0 < a)&&(match l with| []=>false|c::_=>flowC c))
def signC(a:UInt8):Bool:=(65<=a.toNat&&a.toNat<=90)||(97<=a.toNat&&a.toNat<=122)||(48<=a.toNat&&a.toNat<=57)||a.toNat==95||a.toNat==45
def isName(s:B):Bool:=s.all signC&&!s.isEmpty&&decide (s.length<=20)
def ptake(a:Nat):Bool->B->Nat
 |_,[]=>0
 |pb,c::t=>if (c.toNat==35&&pb)||(c.toNat==58&&closed a t)||(decide (0 < a)&&flowC c)then 0 else ptake a (c.toNat==32) t+1
def trimR(l:B):B:=(l.reverse.dropWhile (·.toNat==32)).reverse
def plainC(a:UInt8):Bool:=(97<=a.toNat&&a.toNat<=122)||(48<=a.toNat&&a.toNat<=57)||a.toNat==45
def okPlain(s:B):Bool:=s.all plainC&&!s.isEmpty&&!(s==[45])
def one(a:Nat)(b:Bool):B->Option (Int × B × Nat × Nat)
 | []=>O
 |c::t=>
  let plain:Option (Int × B × Nat × Nat):=let u:=ptake a b (c::t);let s:=trimR ((c::t).take u);if okPlain s then W (1,s,a,u)else O
  if c.toNat=34\/c.toNat=39 then
   match unq c (t.length+1) t with
   |some (s,r)=>if closed a r||r.head?==W 58 then W (2,s,a,t.length+1 - r.length)else O
   |none=>O
  else if c.toNat=38\/c.toNat=42 then
   let s:=t.takeWhile signC
   if isName s&&closed a (t.drop s.length)then W (if c.toNat=38 then 3 else 4,s,a,1+s.length)else O
  else if c.toNat=45 then (if isB t then (if a=0 then W (5,[],a,1)else O)else plain)
  else if c.toNat=58 then (if closed a t then W (6,[],a,1)else plain)
  else if c.toNat=91 then W (8,[],a+1,1)
  else if c.toNat=123 then W (10,[],a+1,1)
  else if c.toNat=44 then (if a=0 then O else W (7,[],a,1))
  else if c.toNat=93 then (if a=0 then O else W (9,[],a - 1,1))
  else if c.toNat=125 then (if a=0 then O else W (11,[],a - 1,1))
  else plain
def toks:Nat->Nat->Bool->Nat->B->Option (List Tk)
 |0,_,_,_,_=>O
 |n+1,deep,pb,at',l=>
  match l with
  | []=>W []
  |c::t=>
   if c.toNat=32 then toks n deep true (at'+1) t
   else if c.toNat=35/\pb=true then W []
   else match one deep pb (c::t) with
    |none=>O
    |some (k,s,d,m)=>(toks n d ((l.getD (m - 1) 0).toNat==32) (at'+m) (l.drop m)).map (⟨k,s,at'⟩::·)
def digits:Nat->Nat->B
 |0,_=>[]
 |f+1,n=>if n < 10 then [UInt8.ofNat (48+n)]else digits f (n / 10)++[UInt8.ofNat (48+n % 10)]
def itoa(n:Int):B:=if n < 0 then 45::digits 20 n.natAbs else digits 20 n.natAbs
def valueOf(s:B):Nat:=s.foldl (λa b=>a * 10+(b.toNat - 48)) 0
def isDig(a:UInt8):Bool:=48<=a.toNat&&a.toNat<=57
def resolve(s:B):Option Sc:=
 match s with
 | []=>O
 |c::t=>
  if s=[110,117,108,108]then W ⟨0,0,[]⟩
  else if s=[116,114,117,101]then W ⟨1,1,[]⟩
  else if s=[102,97,108,115,101]then W ⟨1,0,[]⟩
  else if isDig c then (if s.all isDig/\s.length<=15/\itoa (valueOf s)=s then W ⟨2,valueOf s,[]⟩else O)
  else if c.toNat=45 then (if t.all isDig/\t.length<=15/\itoa (-(valueOf t:Int))=s then W ⟨2,-(valueOf t:Int),[]⟩else O)
  else if s.length=1/\97<=c.toNat/\c.toNat<=122 then W ⟨3,0,s⟩else O
def fkey(t:Tk):Option Sc:=if t.k=1 then resolve t.s else if t.k=2 then W ⟨3,0,t.s⟩else O
inductive Tree where
 |mk (k:Int) (name:B) (x:Sc) (keys:List Sc) (kids:List Tree)
deriving Repr
def Tree.k:Tree->Int|⟨k,_,_,_,_⟩=>k
def Tree.name:Tree->B|⟨_,n,_,_,_⟩=>n
def Tree.kids:Tree->List Tree|⟨_,_,_,_,k⟩=>k
def Tree.named(n:B):Tree->Tree|⟨k,_,x,a,b⟩=>⟨k,n,x,a,b⟩
mutual
def fval:Nat->Nat->List Tk->Option (Tree × List Tk)
 |0,_,_=>O
 |n+1,deep,l=>
  if 24 < deep then O else
  match l with
  | []=>O
  |t::r=>
   if t.k=1\/t.k=2 then (fkey t).map λx=>(⟨0,[],x,[],[]⟩,r)
   else if t.k=3 then
    match r with
    | []=>O
    |u::_=>if u.k=3\/u.k=4 then O else (fval n deep r).map λx=>(x.1.named t.s,x.2)
   else if t.k=4 then W (⟨3,t.s,Sc.null,[],[]⟩,r)
   else if t.k=8 then (flist n (deep+1) r).map λx=>(⟨1,[],Sc.null,[],x.1⟩,x.2)
   else if t.k=10 then (fdict n (deep+1) r).map λx=>(⟨2,[],Sc.null,x.1,x.2.1⟩,x.2.2)
   else O
def flist:Nat->Nat->List Tk->Option (List Tree × List Tk)
 |0,_,_=>O
 |n+1,deep,l=>
  match l with
  | []=>O
  |t::r=>
   if t.k=9 then W ([],r) else
   match fval n deep (t::r) with
   |none=>O
   |some (v,[])=>O
   |some (v,u::s)=>if u.k=7 then (flist n deep s).map λx=>(v::x.1,x.2)else if u.k=9 then W ([v],s)else O
def fdict:Nat->Nat->List Tk->Option (List Sc × List Tree × List Tk)
 |0,_,_=>O
 |n+1,deep,l=>
  match l with
  | []=>O
  |t::r=>
   if t.k=11 then W ([],[],r) else
   match fkey t,r with
   |some x,c::s=>
    if c.k≠6 then O else
    match fval n deep s with
    |none=>O
    |some (v,[])=>O
    |some (v,u::s)=>if u.k=7 then (fdict n deep s).map λa=>(x::a.1,v::a.2.1,a.2.2)else if u.k=11 then W ([x],[v],s)else O
   |_,_=>O
end
mutual
def depth:Tree->Nat
 |⟨_,_,_,_,kids⟩=>depthL kids+1
def depthL:List Tree->Nat
 | []=>0
 |t::r=>max (depth t) (depthL r)
end
structure En where
 no:Int
 col:Int
 l:List Tk
deriving Repr
def bval(l:List Tk)(a:Nat):Option Tree:=
 match fval (l.length+1) 1 l with
 |some (t,[])=>if depth t+a - 1<=24 then W t else O
 |_=>O
def isDash(l:List Tk):Bool:=match l with|t::_=>t.k==5| []=>false
def isKey(l:List Tk):Bool:=match l with|t::u::_=>(t.k==1||t.k==2)&&u.k==6|_=>false
def isName1(l:List Tk):Bool:=match l with| [t]=>t.k==3|_=>false
def isPl(l:List Tk):Bool:= !isDash l&&!isKey l&&!isName1 l&&!l.isEmpty
def bseq(a:Int):List En->Option (List Tree)
 | []=>W []
 |e::r=>if e.col=a/\isDash e.l=true/\isPl (e.l.drop 1)=true then
  match bval (e.l.drop 1) 2,bseq a r with
  |some t,W ts=>W (t::ts)
  |_,_=>O
  else O
def bdict(a:Int):List En->Option (List Sc × List Tree)
 | []=>W ([],[])
 |e::r=>if e.col=a/\isKey e.l=true/\isName1 (e.l.drop 2)=false/\(e.l.drop 2).isEmpty=false then
  match e.l with
  |t::_=>match fkey t,bval (e.l.drop 2) 2,bdict a r with
   |some x,W v,W (xs,vs)=>W (x::xs,v::vs)
   |_,_,_=>O
  | []=>O
  else O
def bread(a:List En):Option Tree:=
 match a with
 | []=>O
 |e::r=>
  if isDash e.l then (bseq e.col a).map λb=>⟨1,[],Sc.null,[],b⟩
  else if isKey e.l then (bdict e.col a).map λx=>⟨2,[],Sc.null,x.1,x.2⟩
  else if isPl e.l&&r.isEmpty then bval e.l 1 else O
structure Nd where
 k:Int
 x:Sc
 keys:List Sc
 kids:List Nat
deriving DecidableEq,Repr
def twice:List Sc->Bool
 | []=>false
 |x::r=>r.contains x||twice r
def AK(x:Sc):Bool:=
 if x.k=0 then x.n==0&&x.s.isEmpty else if x.k=1 then x.s.isEmpty&&(x.n==0||x.n==1)
 else if x.k=2 then x.s.isEmpty&&decide (-999999999999999<=x.n/\x.n<=999999999999999)else x.k==3&&x.n==0
def shaped:Tree->Bool
 |⟨k,name,x,keys,kids⟩=>
  (if k=0 then AK x&&keys.isEmpty&&kids.isEmpty
   else if k=1 then decide (x=Sc.null)&&keys.isEmpty
   else if k=2 then decide (x=Sc.null)&&keys.length==kids.length&&keys.all AK
   else k==3&&decide (x=Sc.null)&&keys.isEmpty&&kids.isEmpty&&!name.isEmpty)&&(name.isEmpty||isName name)
abbrev LS:=List Nd × List (B × Nat)
def addKid(i j:Nat)(l:List Nd):List Nd:=l.modify i λx=>{ x with kids:=x.kids++[j] }
def nameAt(a:List (B × Nat))(s:B):Option Nat:=(a.find? λp=>p.1==s).map (·.2)
mutual
def lay:Nat->Tree->LS->Option (Nat × LS)
 |deep,⟨k,name,x,keys,kids⟩,(l,ns)=>
  if 24 < deep\/shaped ⟨k,name,x,keys,kids⟩=false\/twice keys=true then O
  else if k=3 then (nameAt ns name).map λi=>(i,l,ns)
  else if l.length=200 then O
  else (layL (deep+1) l.length kids (l++[⟨k,x,keys,[]⟩],if name.isEmpty then ns else (name,l.length)::ns)).map λs=>(l.length,s)
def layL:Nat->Nat->List Tree->LS->Option LS
 |_,_,[],s=>W s
 |deep,at',t::r,s=>match lay deep t s with
  |some (i,l,ns)=>layL deep at' r (addKid at' i l,ns)
  |none=>O
end
def graph(t:Tree):Option (List Nd):=(lay 1 t ([],[])).map λx=>x.2.1
def bLt:B->B->Bool
 |_,[]=>false
 | [],_::_=>true
 |a::r,b::s=>a.toNat < b.toNat||(a.toNat==b.toNat&&bLt r s)
def scLt(a b:Sc):Bool:=a.k < b.k||(a.k==b.k&&(a.n < b.n||(a.n==b.n&&bLt a.s b.s)))
def insert(p:Sc × Nat):List (Sc × Nat)->List (Sc × Nat)
 | []=>[p]
 |q::r=>if scLt p.1 q.1 then p::q::r else q::insert p r
def sort(l:List (Sc × Nat)):List (Sc × Nat):=l.foldl (λa p=>insert p a) []
def pairs(x:Nd):List (Sc × Nat):=if x.k=2/\x.keys.length=x.kids.length then sort (x.keys.zip x.kids)else []
def kidsOf(x:Nd):List Nat:=if x.k=1 then x.kids else (pairs x).map (·.2)
def keysOf(x:Nd):List Sc:=(pairs x).map (·.1)
def okNd(n:Nat)(x:Nd):Bool:=
 if x.k=0 then AK x.x&&x.keys.isEmpty&&x.kids.isEmpty
 else if x.k=1 then decide (x.x=Sc.null)&&x.keys.isEmpty&&x.kids.all (· < n)
 else x.k==2&&decide (x.x=Sc.null)&&x.keys.length==x.kids.length&&x.keys.all AK&&!twice x.keys&&x.kids.all (· < n)
def okGr(a:Nat)(g:List Nd):Bool:=decide (g.length<=200)&&decide (a < g.length)&&g.all (okNd g.length)
def scText(x:Sc):B:=
 if x.k=0 then [110,117,108,108]else if x.k=1 then (if x.n=1 then [116,114,117,101]else [102,97,108,115,101])else if x.k=2 then itoa x.n else quote x.s
abbrev Say:=Int × Sc × B × B
def say(b:List Nat)(x:Nd):Say:=(x.k,x.x,(keysOf x).flatMap λa=>scText a++[44],(kidsOf x).flatMap λi=>itoa ((b.getD i 0:Nat):Int)++[44])
def firsts{α:Type}[DecidableEq α](l:List α):List α:=l.foldl (λa x=>if x∈a then a else a++[x]) []
def idx{α:Type}[DecidableEq α](l:List α)(x:α):Nat:=l.idxOf x
def round(g:List Nd)(a:List Nat):List Nat × Nat:=
 let s:=g.map (say a)
 (s.map λx=>idx (firsts s) x,(firsts s).length)
def refine(g:List Nd):Nat->Nat->List Nat × Nat->Option (List Nat)
 |0,_,_=>O
 |f+1,n,(cl,more)=>if more > n then refine g f more (round g cl)else W cl
def classes(g:List Nd):Option (List Nat):=refine g 202 0 (round g (List.replicate g.length 0))
def whole(g:List Nd)(a:List Nat):List Nd:=(firsts a).map λb=>
 let x:=g.getD (idx a b) ⟨0,Sc.null,[],[]⟩
 ⟨x.k,x.x,keysOf x,(kidsOf x).map λi=>a.getD i 0⟩
def walk(g:List Nd):Nat->List Nat->List Nat->Option (List Nat)
 |0,_,_=>O
 |f+1,todo,met=>
  match todo with
  | []=>W met
  |i::r=>if i∈met then walk g f r met else walk g f (kidsOf (g.getD i ⟨0,Sc.null,[],[]⟩)++r) (met++[i])
def tidy(a:Nat)(g:List Nd):Option (List Nd):=
 if okGr a g then (walk g 20000 [a] []).map λb=>b.map λi=>
  let x:=g.getD i ⟨0,Sc.null,[],[]⟩
  ⟨x.k,x.x,keysOf x,(kidsOf x).map λj=>idx b j⟩
 else O
def quot(g:List Nd):Option (List Nd):=
 if okGr 0 g then match classes g with
  |some cl=>tidy (cl.getD 0 0) (whole g cl)
  |none=>O
 else O
def uses(g:List Nd)(i:Nat):Nat:=(g.flatMap (·.kids)).count i+(if i=0 then 1 else 0)
def isAnch(g:List Nd)(i:Nat):Bool:=let x:=g.getD i ⟨0,Sc.null,[],[]⟩;(x.k==1||x.k==2)&&!x.kids.isEmpty&&decide (1 < uses g i)
def anchor(g:List Nd)(i:Nat):Nat:=if isAnch g i then ((List.range (i+1)).filter (isAnch g)).length else 0
mutual
def deepest (g:List Nd):Nat->Nat->Nat->List Nat->Option (List Nat)
 |0,_,_,_=>O
 |f+1,i,d,n=>if 0 < n.getD i 0 then W n else deepestL g f (d+1) (g.getD i ⟨0,Sc.null,[],[]⟩).kids (n.set i d)
def deepestL (g:List Nd):Nat->Nat->List Nat->List Nat->Option (List Nat)
 |0,_,_,_=>O
 |_+1,_,[],n=>W n
 |f+1,d,i::r,n=>match deepest g f i d n with
  |some n'=>deepestL g f d r n'
  |none=>O
end
def places(g:List Nd):Nat:=((List.range g.length).map λi=>if isAnch g i then 1 else uses g i).sum
def headsOf(x:Nd):List B:=if x.k=1 then x.kids.map λ_=>[45]else (keysOf x).map λa=>scText a++[58]
def nodeWord(x:Nd):B:=if x.k=0 then scText x.x else if x.k=1 then [91,93]else [123,125]
def anchName(g:List Nd)(i:Nat):B:=if anchor g i=0 then []else 97::itoa (anchor g i)
mutual
def items (g:List Nd):Nat->Nat->Nat->List Nat->Option (List B × List Nat)
 |0,_,_,_=>O
 |f+1,i,ind,met=>
  let x:=g.getD i ⟨0,Sc.null,[],[]⟩
  itemsL g f ind ((headsOf x).zip (kidsOf x)) met
def itemsL (g:List Nd):Nat->Nat->List (B × Nat)->List Nat->Option (List B × List Nat)
 |0,_,_,_=>O
 |_+1,_,[],met=>W ([],met)
 |f+1,ind,(h,kid)::r,met=>
  let y:=g.getD kid ⟨0,Sc.null,[],[]⟩
  let b:=List.replicate ind 32
  if y.kids.isEmpty then (itemsL g f ind r met).map λz=>((b++h++32::nodeWord y)::z.1,z.2)
  else if kid∈met then (itemsL g f ind r met).map λz=>((b++h++32::42::anchName g kid)::z.1,z.2)
  else match items g f kid (ind+2) (kid::met) with
   |none=>O
   |some (ls,met')=>(itemsL g f ind r met').map λz=>((b++h++(if (anchName g kid).isEmpty then []else 32::38::anchName g kid))::(ls++z.1),z.2)
end
def lines(g:List Nd):Option (List B):=
 let x:=g.getD 0 ⟨0,Sc.null,[],[]⟩
 if x.kids.isEmpty then W [nodeWord x] else
 (items g 1000 0 0 [0]).map λz=>if (anchName g 0).isEmpty then z.1 else (38::anchName g 0)::z.1
def printed(g:List Nd):Option B:=
 if tidy 0 g=W g then
  match deepest g 1000 0 1 (List.replicate g.length 0) with
  |some ds=>if (List.range g.length).all λi=>decide (ds.getD i 0+(if (g.getD i ⟨0,Sc.null,[],[]⟩).kids.isEmpty then 0 else 1)<=24) then
   match lines g with
   |some ls=>if places g<=200/\(ls.flatMap (·++[10])).length<=8000 then W (ls.flatMap (·++[10]))else O
   |none=>O
   else O
  |none=>O
 else O
def canon(g:List Nd):Option B:=(quot g).bind printed
end Tp
namespace Go.Proofs.YtbikgdhbiebhcaaGreatDoor
open Go.RowKit Tryz
def RA(w:World)(b:Option Addr)(g o:Nat)(a:List Value):Prop:=
 a≠[]->b=W ⟨g,o,O⟩/\g < w.heap.size/\∀(i:Nat) (v:Value),a[i]? =W v->w.cell? ⟨g,o+i,O⟩=W v
theorem RA.keep{w w':World}{a:Option Addr}{g o:Nat}{c:List Value}(e:RA w a g o c)(d:Below w.heap.size w w'):RA w' a g o c:=by
 intro f;obtain⟨j,b,k⟩:=e f;exact⟨j,zK b d.size,λi x l=>(World.cell?_of_block (w:=w) (d.block g b)).trans (k i x l)⟩
theorem wA(w:World)(a:Option Addr)(g o:Nat):RA w a g o []:=λb=>absurd rfl b
theorem aE{α:Type}(a:List α)(i:Nat)(x:α)(c:a[i]? =W x):a.drop i=x::a.drop (i+1):=by
 obtain⟨b,rfl⟩:=zM.1 c;exact zW b
theorem kw{α:Type}(a:α->Value)(b:List α)(i:Nat)(x:α)(c:b[i]? =W x):(b.map a)[i]? =W (a x):=by rw[List.getElem?_map,c];rfl
theorem fk{α:Type}(a:List α)(i:Nat)(b:i < a.length):∃x,a[i]? =W x:=⟨_,zE b⟩
theorem cn(c:Int)(b:List Int)(s:Option Addr)(g o n cap:Nat)(r:b.length=n)(F:n<=100000)(w:World)(p:RA w s g o (b.map (V .i32))):
 Calls π 15 #[V .i32 c,Y s n cap] w λe w'=>e=ρ (β (decide (c∈b)))/\w'=w:=by
 obtain⟨d,l⟩:∃d,decide (c∈b)=d:=⟨_,rfl⟩;rw[l];obtain⟨x,y,q⟩:=zx3 l p r;clear l p r
 go_enter func15,ntmps15
 go_wp2_with fail
 go_loopw [4,6,9] (λ_ _ a wr=>∃i:Nat,a=V I (i:Int)/\wr=w/\i<=n/\decide (c∈b.drop i)=d) (λ_ _ a _=>n - (Lib.intOf a).toNat)
 case atStart=>exact⟨0,rfl,rfl,z_ _,by rw[List.drop_zero];exact x.out⟩
 case round=>
  obtain⟨i,rfl,rfl,E,f⟩:=hrel;by_cases z:i < n
  ·have v:(i:Int) < (n:Int):=by omega
   obtain⟨k,j⟩:=fk b i (by rw[q.out];exact z);obtain⟨A,_,t⟩:=y.out (by intro e;have:=kw (Value.int .i32) b i k j;rw[e]at this;simp at this);subst A;have D:=t i _ (kw _ _ _ _ j);rw[aE b i k j]at f;have C:IntKind.i64.wrap ((i:Int)+1)=(i:Int)+1:=zU _ (by omega);clear j t;by_cases m:c=k
   ·subst m
    obtain rfl:d=true:=by rw[<-f];simp
    go_wp2_with fail
    go_ret
    exact⟨rfl,rfl⟩
   ·rw[show decide (c∈k::b.drop (i+1))=decide (c∈b.drop (i+1))by simp[m]]at f
    go_wp2_with fail
    go_roundw
    case rel=>exact⟨i+1,by simp,trivial,by omega,f⟩
    case measure=>simp[Lib.intOf];omega
  ·have v:¬(i:Int) < (n:Int):=by omega
   have u:d=false:=by
    rw[<-f,List.drop_eq_nil_of_le (by rw[q.out];omega)];rfl
   subst u
   go_wp2_with fail
   go_ret
   exact⟨rfl,rfl⟩
theorem nD(c:Int)(b:List Int)(s:Option Addr)(g o n cap:Nat)(r:b.length=n)(F:n<=100000)(w:World)(p:RA w s g o (b.map (V .i32))):
 Calls π 305 #[V .i32 c,Y s n cap] w λe w'=>e=ρ (β (decide (c∈b)))/\w'=w:=by
 obtain⟨d,l⟩:∃d,decide (c∈b)=d:=⟨_,rfl⟩;rw[l];obtain⟨x,y,q⟩:=zx3 l p r;clear l p r
 go_enter func305,ntmps305
 go_wp2_with fail
 go_loopw [4,6,9] (λ_ _ a wr=>∃i:Nat,a=V I (i:Int)/\wr=w/\i<=n/\decide (c∈b.drop i)=d) (λ_ _ a _=>n - (Lib.intOf a).toNat)
 case atStart=>exact⟨0,rfl,rfl,z_ _,by rw[List.drop_zero];exact x.out⟩
 case round=>
  obtain⟨i,rfl,rfl,E,f⟩:=hrel;by_cases z:i < n
  ·have v:(i:Int) < (n:Int):=by omega
   obtain⟨k,j⟩:=fk b i (by rw[q.out];exact z);obtain⟨A,_,t⟩:=y.out (by intro e;have:=kw (Value.int .i32) b i k j;rw[e]at this;simp at this);subst A;have D:=t i _ (kw _ _ _ _ j);rw[aE b i k j]at f;have C:IntKind.i64.wrap ((i:Int)+1)=(i:Int)+1:=zU _ (by omega);clear j t;by_cases m:c=k
   ·subst m
    obtain rfl:d=true:=by rw[<-f];simp
    go_wp2_with fail
    go_ret
    exact⟨rfl,rfl⟩
   ·rw[show decide (c∈k::b.drop (i+1))=decide (c∈b.drop (i+1))by simp[m]]at f
    go_wp2_with fail
    go_roundw
    case rel=>exact⟨i+1,by simp,trivial,by omega,f⟩
    case measure=>simp[Lib.intOf];omega
  ·have v:¬(i:Int) < (n:Int):=by omega
   have u:d=false:=by
    rw[<-f,List.drop_eq_nil_of_le (by rw[q.out];omega)];rfl
   subst u
   go_wp2_with fail
   go_ret
   exact⟨rfl,rfl⟩
theorem em(a:Int)(w:World):Calls π 16 #[V .i32 a] w λe w'=>e=ρ (β (decide (32<=a)&&!decide (a=127)))/\w'=w:=by
 go_enter func16,ntmps16
 go_wp2
 all_goals go_ret
 all_goals refine⟨?_,rfl⟩
 all_goals simp_all
 all_goals (try (rw[Bool.eq_iff_iff];simp))
 all_goals (try omega)
theorem oO(a:Int)(w:World):Calls π 149 #[V .i32 a] w λe w'=>e=ρ (β (decide (a < 32)||decide (a=127)))/\w'=w:=by
 go_enter func149,ntmps149
 go_wp2
 all_goals go_ret
 all_goals refine⟨?_,rfl⟩
 all_goals simp_all
 all_goals (try (rw[Bool.eq_iff_iff];simp))
 all_goals (try omega)
def Aa(a:Int):Bool:=(decide (65<=a)&&decide (a<=90))||(decide (97<=a)&&decide (a<=122))||(decide (48<=a)&&decide (a<=57))||decide (a=95)||decide (a=45)
theorem jO(a:Int)(w:World):Calls π 243 #[V .i32 a] w λe w'=>e=ρ (β (Aa a))/\w'=w:=by
 unfold Aa
 go_enter func243,ntmps243
 go_wp2
 all_goals go_ret
 all_goals refine⟨?_,rfl⟩
 all_goals simp_all
 all_goals (try (rw[Bool.eq_iff_iff];simp))
 all_goals (try omega)
end Go.Proofs.YtbikgdhbiebhcaaGreatDoor
namespace Go.Proofs
open Go.Shelf
def Tryz.lays169_ren:Go.Shelf.Ren:=⟨fun|169=>17|n=>n,fun|70=>35|9=>9|0=>0|72=>38|37=>36|127=>71|3=>3|5=>5|n=>n,fun|n=>n⟩
theorem eN:Go.Proofs.Lays.n169 π Tryz.lays169_ren:={
 mixed:=by kernel_rfl
 f169:=Tryz.func17.trans (congrArg W (by kernel_rfl))
 t0:=Tryz.underlying0
 a0:=Tryz.isAgg0
 z0:=Tryz.sizeOf0
 v0:=Tryz.zeroValue0
 t3:=Tryz.underlying3
 a3:=Tryz.isAgg3
 z3:=Tryz.sizeOf3
 v3:=Tryz.zeroValue3
 t9:=Tryz.underlying9
 a9:=Tryz.isAgg9
 z9:=Tryz.sizeOf9
 v9:=Tryz.zeroValue9
 t37:=Tryz.underlying36
 a37:=Tryz.isAgg36
 z37:=Tryz.sizeOf36
 v37:=Tryz.zeroValue36
 t70:=Tryz.underlying35
 a70:=Tryz.isAgg35
 z70:=Tryz.sizeOf35
 v70:=Tryz.zeroValue35
 t72:=Tryz.underlying38
 a72:=Tryz.isAgg38
 z72:=Tryz.sizeOf38
 v72:=Tryz.zeroValue38
 t127:=Tryz.underlying71
 a127:=Tryz.isAgg71
 z127:=Tryz.sizeOf71
 v127:=Tryz.zeroValue71 }
theorem Tryz.Builder_Extra_169:Builder.Extra π Tryz.lays169_ren:={
 sizeBuilder:=by kernel_rfl
 liesBuilder:=by kernel_rfl
 t5:=Tryz.underlying5
 a5:=Tryz.isAgg5
 z5:=Tryz.sizeOf5
 v5:=Tryz.zeroValue5
 infoByte:=by kernel_rfl
 cellsByte:=by kernel_rfl
 sizeByte:=by kernel_rfl
 neB5:=by decide }
def Tryz.lays156_ren:Go.Shelf.Ren:=⟨fun|156=>181|165=>220|166=>62|169=>17|240=>30|241=>254|276=>49|277=>283|n=>n,fun|31=>22|9=>9|3=>3|4=>4|0=>0|20=>20|72=>38|76=>42|70=>35|37=>36|75=>41|127=>71|164=>94|5=>5|80=>51|n=>n,fun|n=>n⟩
theorem lw:Go.Proofs.Lays.n156 π Tryz.lays156_ren:={
 mixed:=by kernel_rfl
 f156:=Tryz.func181.trans (congrArg W (by kernel_rfl))
 f165:=Tryz.func220.trans (congrArg W (by kernel_rfl))
 f166:=Tryz.func62.trans (congrArg W (by kernel_rfl))
 f169:=Tryz.func17.trans (congrArg W (by kernel_rfl))
 f240:=Tryz.func30.trans (congrArg W (by kernel_rfl))
 f241:=Tryz.func254.trans (congrArg W (by kernel_rfl))
 f276:=Tryz.func49.trans (congrArg W (by kernel_rfl))
 f277:=Tryz.func283.trans (congrArg W (by kernel_rfl))
 t0:=Tryz.underlying0
 a0:=Tryz.isAgg0
 z0:=Tryz.sizeOf0
 v0:=Tryz.zeroValue0
 t3:=Tryz.underlying3
 a3:=Tryz.isAgg3
 z3:=Tryz.sizeOf3
 v3:=Tryz.zeroValue3
 t4:=Tryz.underlying4
 a4:=Tryz.isAgg4
 z4:=Tryz.sizeOf4
 v4:=Tryz.zeroValue4
 t9:=Tryz.underlying9
 a9:=Tryz.isAgg9
 z9:=Tryz.sizeOf9
 v9:=Tryz.zeroValue9
 t20:=Tryz.underlying20
 a20:=Tryz.isAgg20
 z20:=Tryz.sizeOf20
 v20:=Tryz.zeroValue20
 t31:=Tryz.underlying22
 a31:=Tryz.isAgg22
 z31:=Tryz.sizeOf22
 v31:=Tryz.zeroValue22
 t37:=Tryz.underlying36
 a37:=Tryz.isAgg36
 z37:=Tryz.sizeOf36
 v37:=Tryz.zeroValue36
 t70:=Tryz.underlying35
 a70:=Tryz.isAgg35
 z70:=Tryz.sizeOf35
 v70:=Tryz.zeroValue35
 t72:=Tryz.underlying38
 a72:=Tryz.isAgg38
 z72:=Tryz.sizeOf38
 v72:=Tryz.zeroValue38
 t75:=Tryz.underlying41
 a75:=Tryz.isAgg41
 z75:=Tryz.sizeOf41
 v75:=Tryz.zeroValue41
 t76:=Tryz.underlying42
 a76:=Tryz.isAgg42
 z76:=Tryz.sizeOf42
 v76:=Tryz.zeroValue42
 t127:=Tryz.underlying71
 a127:=Tryz.isAgg71
 z127:=Tryz.sizeOf71
 v127:=Tryz.zeroValue71
 t164:=Tryz.underlying94
 a164:=Tryz.isAgg94
 z164:=Tryz.sizeOf94
 v164:=Tryz.zeroValue94 }
theorem cF:Builder.Extra π Tryz.lays156_ren:={
 sizeBuilder:=by kernel_rfl
 liesBuilder:=by kernel_rfl
 t5:=Tryz.underlying5
 a5:=Tryz.isAgg5
 z5:=Tryz.sizeOf5
 v5:=Tryz.zeroValue5
 infoByte:=by kernel_rfl
 cellsByte:=by kernel_rfl
 sizeByte:=by kernel_rfl
 neB5:=by decide }
open Go.RowKit in
theorem Tryz.strings_Join (b o c:Nat) (xs:List ByteArray) (a:ByteArray) (w:World) (i:∀(j:Nat) x,xs[j]? =W x->w.cell? ⟨b,o+j,O⟩=W (U x)) (d:b < w.heap.size) (k:xs.length<=140737488355328) (f:xs.length<=c) (g:(Lib.join (xs.map (·.data.toList)) a.data.toList).length<=140737488355328):
 Calls π 181 #[Y (W ⟨b,o,O⟩) xs.length c,U a] w λe w'=>e=ρ (U ⟨(Lib.join (xs.map (·.data.toList)) a.data.toList).toArray⟩)/\Below w.heap.size w w':=Any.strings_Join lw cF b o c xs a w i d k f g
def Tryz.lays161_ren:Go.Shelf.Ren:=⟨fun|161=>103|231=>142|227=>143|233=>144|235=>145|228=>191|197=>29|151=>192|260=>48|152=>229|137=>257|119=>258|224=>226|225=>225|217=>224|266=>255|n=>n,fun|9=>9|4=>4|3=>3|5=>5|117=>291|116=>290|0=>0|124=>294|105=>68|21=>21|119=>124|46=>50|139=>127|138=>126|n=>n,fun|3=>0|4=>1|n=>n⟩
theorem lu:Go.Proofs.Lays.n161 π Tryz.lays161_ren:={
 mixed:=by kernel_rfl
 f119:=Tryz.func258.trans (congrArg W (by kernel_rfl))
 f137:=Tryz.func257.trans (congrArg W (by kernel_rfl))
 f151:=Tryz.func192.trans (congrArg W (by kernel_rfl))
 f152:=Tryz.func229.trans (congrArg W (by kernel_rfl))
 f161:=Tryz.func103.trans (congrArg W (by kernel_rfl))
 f197:=Tryz.func29.trans (congrArg W (by kernel_rfl))
 f217:=Tryz.func224.trans (congrArg W (by kernel_rfl))
 f224:=Tryz.func226.trans (congrArg W (by kernel_rfl))
 f225:=Tryz.func225.trans (congrArg W (by kernel_rfl))
 f227:=Tryz.func143.trans (congrArg W (by kernel_rfl))
 f228:=Tryz.func191.trans (congrArg W (by kernel_rfl))
 f231:=Tryz.func142.trans (congrArg W (by kernel_rfl))
 f233:=Tryz.func144.trans (congrArg W (by kernel_rfl))
 f235:=Tryz.func145.trans (congrArg W (by kernel_rfl))
 f260:=Tryz.func48.trans (congrArg W (by kernel_rfl))
 f266:=Tryz.func255.trans (congrArg W (by kernel_rfl))
 t0:=Tryz.underlying0
 a0:=Tryz.isAgg0
 z0:=Tryz.sizeOf0
 v0:=Tryz.zeroValue0
 t3:=Tryz.underlying3
 a3:=Tryz.isAgg3
 z3:=Tryz.sizeOf3
 v3:=Tryz.zeroValue3
 t4:=Tryz.underlying4
 a4:=Tryz.isAgg4
 z4:=Tryz.sizeOf4
 v4:=Tryz.zeroValue4
 t5:=Tryz.underlying5
 a5:=Tryz.isAgg5
 z5:=Tryz.sizeOf5
 v5:=Tryz.zeroValue5
 t9:=Tryz.underlying9
 a9:=Tryz.isAgg9
 z9:=Tryz.sizeOf9
 v9:=Tryz.zeroValue9
 t21:=Tryz.underlying21
 a21:=Tryz.isAgg21
 z21:=Tryz.sizeOf21
 v21:=Tryz.zeroValue21
 t46:=Tryz.underlying50
 a46:=Tryz.isAgg50
 z46:=Tryz.sizeOf50
 v46:=Tryz.zeroValue50
 t105:=Tryz.underlying68
 a105:=Tryz.isAgg68
 z105:=Tryz.sizeOf68
 v105:=Tryz.zeroValue68
 t116:=Tryz.underlying290
 a116:=Tryz.isAgg290
 z116:=Tryz.sizeOf290
 t117:=Tryz.underlying291
 a117:=Tryz.isAgg291
 z117:=Tryz.sizeOf291
 v117:=Tryz.zeroValue291
 t119:=Tryz.underlying124
 a119:=Tryz.isAgg124
 z119:=Tryz.sizeOf124
 t124:=Tryz.underlying294
 a124:=Tryz.isAgg294
 z124:=Tryz.sizeOf294
 v124:=Tryz.zeroValue294
 t138:=Tryz.underlying126
 a138:=Tryz.isAgg126
 z138:=Tryz.sizeOf126
 v138:=Tryz.zeroValue126
 t139:=Tryz.underlying127
 a139:=Tryz.isAgg127
 z139:=Tryz.sizeOf127
 v139:=Tryz.zeroValue127
 g3:=by kernel_rfl
 g4:=by kernel_rfl }
open Go.RowKit in
theorem Tryz.strings_TrimLeft_one (s:ByteArray) (a:UInt8) (b:a.toNat < 128) (w:World):
 Calls π 103 #[U s,U ⟨#[a]⟩] w λe w'=>e=ρ (U ⟨(Lib.trimLeftB s.data.toList a).toArray⟩)/\w'=w:=Any.strings_TrimLeft_one lu s a b w
def Tryz.lays162_ren:Go.Shelf.Ren:=⟨fun|162=>104|232=>146|227=>143|234=>147|236=>148|228=>191|271=>193|151=>192|120=>230|197=>29|152=>229|260=>48|137=>257|119=>258|224=>226|225=>225|217=>224|266=>255|n=>n,fun|9=>9|4=>4|3=>3|5=>5|117=>291|116=>290|0=>0|124=>294|21=>21|105=>68|46=>50|119=>124|139=>127|138=>126|n=>n,fun|3=>0|4=>1|n=>n⟩
theorem lq:Go.Proofs.Lays.n162 π Tryz.lays162_ren:={
 mixed:=by kernel_rfl
 f119:=Tryz.func258.trans (congrArg W (by kernel_rfl))
 f120:=Tryz.func230.trans (congrArg W (by kernel_rfl))
 f137:=Tryz.func257.trans (congrArg W (by kernel_rfl))
 f151:=Tryz.func192.trans (congrArg W (by kernel_rfl))
 f152:=Tryz.func229.trans (congrArg W (by kernel_rfl))
 f162:=Tryz.func104.trans (congrArg W (by kernel_rfl))
 f197:=Tryz.func29.trans (congrArg W (by kernel_rfl))
 f217:=Tryz.func224.trans (congrArg W (by kernel_rfl))
 f224:=Tryz.func226.trans (congrArg W (by kernel_rfl))
 f225:=Tryz.func225.trans (congrArg W (by kernel_rfl))
 f227:=Tryz.func143.trans (congrArg W (by kernel_rfl))
 f228:=Tryz.func191.trans (congrArg W (by kernel_rfl))
 f232:=Tryz.func146.trans (congrArg W (by kernel_rfl))
 f234:=Tryz.func147.trans (congrArg W (by kernel_rfl))
 f236:=Tryz.func148.trans (congrArg W (by kernel_rfl))
 f260:=Tryz.func48.trans (congrArg W (by kernel_rfl))
 f266:=Tryz.func255.trans (congrArg W (by kernel_rfl))
 f271:=Tryz.func193.trans (congrArg W (by kernel_rfl))
 t0:=Tryz.underlying0
 a0:=Tryz.isAgg0
 z0:=Tryz.sizeOf0
 v0:=Tryz.zeroValue0
 t3:=Tryz.underlying3
 a3:=Tryz.isAgg3
 z3:=Tryz.sizeOf3
 v3:=Tryz.zeroValue3
 t4:=Tryz.underlying4
 a4:=Tryz.isAgg4
 z4:=Tryz.sizeOf4
 v4:=Tryz.zeroValue4
 t5:=Tryz.underlying5
 a5:=Tryz.isAgg5
 z5:=Tryz.sizeOf5
 v5:=Tryz.zeroValue5
 t9:=Tryz.underlying9
 a9:=Tryz.isAgg9
 z9:=Tryz.sizeOf9
 v9:=Tryz.zeroValue9
 t21:=Tryz.underlying21
 a21:=Tryz.isAgg21
 z21:=Tryz.sizeOf21
 v21:=Tryz.zeroValue21
 t46:=Tryz.underlying50
 a46:=Tryz.isAgg50
 z46:=Tryz.sizeOf50
 v46:=Tryz.zeroValue50
 t105:=Tryz.underlying68
 a105:=Tryz.isAgg68
 z105:=Tryz.sizeOf68
 v105:=Tryz.zeroValue68
 t116:=Tryz.underlying290
 a116:=Tryz.isAgg290
 z116:=Tryz.sizeOf290
 t117:=Tryz.underlying291
 a117:=Tryz.isAgg291
 z117:=Tryz.sizeOf291
 v117:=Tryz.zeroValue291
 t119:=Tryz.underlying124
 a119:=Tryz.isAgg124
 z119:=Tryz.sizeOf124
 t124:=Tryz.underlying294
 a124:=Tryz.isAgg294
 z124:=Tryz.sizeOf294
 v124:=Tryz.zeroValue294
 t138:=Tryz.underlying126
 a138:=Tryz.isAgg126
 z138:=Tryz.sizeOf126
 v138:=Tryz.zeroValue126
 t139:=Tryz.underlying127
 a139:=Tryz.isAgg127
 z139:=Tryz.sizeOf127
 v139:=Tryz.zeroValue127
 g3:=by kernel_rfl
 g4:=by kernel_rfl }
open Go.RowKit in
theorem Tryz.strings_TrimRight_one (s:ByteArray) (a:UInt8) (c:a.toNat < 128) (w:World) (b:s.size<=9223372036854775807):
 Calls π 104 #[U s,U ⟨#[a]⟩] w λe w'=>e=ρ (U ⟨(Lib.trimRightB s.data.toList a).toArray⟩)/\w'=w:=Any.strings_TrimRight_one lq s a c w b
def Tryz.lays160_ren:Go.Shelf.Ren:=⟨fun|160=>304|232=>146|231=>142|227=>143|234=>147|233=>144|236=>148|235=>145|228=>191|271=>193|151=>192|197=>29|120=>230|152=>229|260=>48|137=>257|119=>258|224=>226|225=>225|217=>224|266=>255|n=>n,fun|9=>9|4=>4|3=>3|5=>5|117=>291|116=>290|0=>0|124=>294|21=>21|105=>68|46=>50|119=>124|139=>127|138=>126|n=>n,fun|3=>0|4=>1|n=>n⟩
theorem lv:Go.Proofs.Lays.n160 π Tryz.lays160_ren:={
 mixed:=by kernel_rfl
 f119:=Tryz.func258.trans (congrArg W (by kernel_rfl))
 f120:=Tryz.func230.trans (congrArg W (by kernel_rfl))
 f137:=Tryz.func257.trans (congrArg W (by kernel_rfl))
 f151:=Tryz.func192.trans (congrArg W (by kernel_rfl))
 f152:=Tryz.func229.trans (congrArg W (by kernel_rfl))
 f160:=Tryz.func304.trans (congrArg W (by kernel_rfl))
 f197:=Tryz.func29.trans (congrArg W (by kernel_rfl))
 f217:=Tryz.func224.trans (congrArg W (by kernel_rfl))
 f224:=Tryz.func226.trans (congrArg W (by kernel_rfl))
 f225:=Tryz.func225.trans (congrArg W (by kernel_rfl))
 f227:=Tryz.func143.trans (congrArg W (by kernel_rfl))
 f228:=Tryz.func191.trans (congrArg W (by kernel_rfl))
 f231:=Tryz.func142.trans (congrArg W (by kernel_rfl))
 f232:=Tryz.func146.trans (congrArg W (by kernel_rfl))
 f233:=Tryz.func144.trans (congrArg W (by kernel_rfl))
 f234:=Tryz.func147.trans (congrArg W (by kernel_rfl))
 f235:=Tryz.func145.trans (congrArg W (by kernel_rfl))
 f236:=Tryz.func148.trans (congrArg W (by kernel_rfl))
 f260:=Tryz.func48.trans (congrArg W (by kernel_rfl))
 f266:=Tryz.func255.trans (congrArg W (by kernel_rfl))
 f271:=Tryz.func193.trans (congrArg W (by kernel_rfl))
 t0:=Tryz.underlying0
 a0:=Tryz.isAgg0
 z0:=Tryz.sizeOf0
 v0:=Tryz.zeroValue0
 t3:=Tryz.underlying3
 a3:=Tryz.isAgg3
 z3:=Tryz.sizeOf3
 v3:=Tryz.zeroValue3
 t4:=Tryz.underlying4
 a4:=Tryz.isAgg4
 z4:=Tryz.sizeOf4
 v4:=Tryz.zeroValue4
 t5:=Tryz.underlying5
 a5:=Tryz.isAgg5
 z5:=Tryz.sizeOf5
 v5:=Tryz.zeroValue5
 t9:=Tryz.underlying9
 a9:=Tryz.isAgg9
 z9:=Tryz.sizeOf9
 v9:=Tryz.zeroValue9
 t21:=Tryz.underlying21
 a21:=Tryz.isAgg21
 z21:=Tryz.sizeOf21
 v21:=Tryz.zeroValue21
 t46:=Tryz.underlying50
 a46:=Tryz.isAgg50
 z46:=Tryz.sizeOf50
 v46:=Tryz.zeroValue50
 t105:=Tryz.underlying68
 a105:=Tryz.isAgg68
 z105:=Tryz.sizeOf68
 v105:=Tryz.zeroValue68
 t116:=Tryz.underlying290
 a116:=Tryz.isAgg290
 z116:=Tryz.sizeOf290
 t117:=Tryz.underlying291
 a117:=Tryz.isAgg291
 z117:=Tryz.sizeOf291
 v117:=Tryz.zeroValue291
 t119:=Tryz.underlying124
 a119:=Tryz.isAgg124
 z119:=Tryz.sizeOf124
 t124:=Tryz.underlying294
 a124:=Tryz.isAgg294
 z124:=Tryz.sizeOf294
 v124:=Tryz.zeroValue294
 t138:=Tryz.underlying126
 a138:=Tryz.isAgg126
 z138:=Tryz.sizeOf126
 v138:=Tryz.zeroValue126
 t139:=Tryz.underlying127
 a139:=Tryz.isAgg127
 z139:=Tryz.sizeOf127
 v139:=Tryz.zeroValue127
 g3:=by kernel_rfl
 g4:=by kernel_rfl }
open Go.RowKit in
theorem Tryz.strings_Trim_one (s:ByteArray) (a:UInt8) (c:a.toNat < 128) (w:World) (b:s.size<=9223372036854775807):
 Calls π 304 #[U s,U ⟨#[a]⟩] w λe w'=>e=ρ (U ⟨(Lib.trimB s.data.toList a).toArray⟩)/\(w'=w\/w'=w.drew):=Any.strings_Trim_one lv s a c w b
def Tryz.lays119_ren:Go.Shelf.Ren:=⟨fun|119=>258|n=>n,fun|21=>21|4=>4|n=>n,fun|n=>n⟩
theorem lC:Go.Proofs.Lays.n119 π Tryz.lays119_ren:={
 mixed:=by kernel_rfl
 f119:=Tryz.func258.trans (congrArg W (by kernel_rfl))
 t4:=Tryz.underlying4
 a4:=Tryz.isAgg4
 z4:=Tryz.sizeOf4
 v4:=Tryz.zeroValue4
 t21:=Tryz.underlying21
 a21:=Tryz.isAgg21
 z21:=Tryz.sizeOf21
 v21:=Tryz.zeroValue21 }
theorem Tryz.utf8_ValidRune(a:Int)(w:World):
 Calls π 258 #[V .i32 a] w λe w'=>e=ρ (β (Lib.validRune a))/\w'=w:=Any.utf8_ValidRune lC a w
def Tryz.lays137_ren:Go.Shelf.Ren:=⟨fun|137=>257|217=>224|266=>255|n=>n,fun|9=>9|5=>5|3=>3|n=>n,fun|n=>n⟩
theorem lz:Go.Proofs.Lays.n137 π Tryz.lays137_ren:={
 mixed:=by kernel_rfl
 f137:=Tryz.func257.trans (congrArg W (by kernel_rfl))
 f217:=Tryz.func224.trans (congrArg W (by kernel_rfl))
 f266:=Tryz.func255.trans (congrArg W (by kernel_rfl))
 t3:=Tryz.underlying3
 a3:=Tryz.isAgg3
 z3:=Tryz.sizeOf3
 v3:=Tryz.zeroValue3
 t5:=Tryz.underlying5
 a5:=Tryz.isAgg5
 z5:=Tryz.sizeOf5
 v5:=Tryz.zeroValue5
 t9:=Tryz.underlying9
 a9:=Tryz.isAgg9
 z9:=Tryz.sizeOf9
 v9:=Tryz.zeroValue9 }
open Go.RowKit in
theorem Tryz.strings_IndexByte (s:ByteArray) (a:Int) (w:World):
 Calls π 257 #[U s,V .u8 a] w λe w'=>e=ρ (V I (Lib.indexByte s.data.toList a.toNat.toUInt8))/\w'=w:=Any.strings_IndexByte lz s a w
def Tryz.lays103_ren:Go.Shelf.Ren:=⟨fun|103=>141|210=>190|206=>228|n=>n,fun|9=>9|4=>4|24=>286|3=>3|n=>n,fun|n=>n⟩
theorem lE:Go.Proofs.Lays.n103 π Tryz.lays103_ren:={
 mixed:=by kernel_rfl
 f103:=Tryz.func141.trans (congrArg W (by kernel_rfl))
 f206:=Tryz.func228.trans (congrArg W (by kernel_rfl))
 f210:=Tryz.func190.trans (congrArg W (by kernel_rfl))
 t3:=Tryz.underlying3
 a3:=Tryz.isAgg3
 z3:=Tryz.sizeOf3
 v3:=Tryz.zeroValue3
 t4:=Tryz.underlying4
 a4:=Tryz.isAgg4
 z4:=Tryz.sizeOf4
 v4:=Tryz.zeroValue4
 t9:=Tryz.underlying9
 a9:=Tryz.isAgg9
 z9:=Tryz.sizeOf9
 v9:=Tryz.zeroValue9
 t24:=Tryz.underlying286
 a24:=Tryz.isAgg286
 z24:=Tryz.sizeOf286
 v24:=Tryz.zeroValue286 }
open Go.RowKit in
theorem Tryz.strings_CutPrefix (s p:ByteArray) (w:World):
 Calls π 141 #[U s,U p] w λe w'=>e=ρ (.tuple #[U ⟨(Lib.trimPrefix s.data.toList p.data.toList).toArray⟩,β (Lib.hasPrefix s.data.toList p.data.toList)])/\w'=w:=Any.strings_CutPrefix lE s p w
def Tryz.lays121_ren:Go.Shelf.Ren:=⟨fun|121=>39|214=>63|n=>n,fun|4=>4|9=>9|n=>n,fun|n=>n⟩
theorem lB:Go.Proofs.Lays.n121 π Tryz.lays121_ren:={
 mixed:=by kernel_rfl
 f121:=Tryz.func39.trans (congrArg W (by kernel_rfl))
 f214:=Tryz.func63.trans (congrArg W (by kernel_rfl))
 t4:=Tryz.underlying4
 a4:=Tryz.isAgg4
 z4:=Tryz.sizeOf4
 v4:=Tryz.zeroValue4
 t9:=Tryz.underlying9
 a9:=Tryz.isAgg9
 z9:=Tryz.sizeOf9
 v9:=Tryz.zeroValue9 }
open Go.RowKit in
theorem Tryz.strconv_FormatBool (a:Bool) (w:World):
 Calls π 39 #[β a] w λe w'=>e=ρ (U ⟨(Lib.formatBool a).toArray⟩)/\w'=w:=Any.strconv_FormatBool lB a w
def Tryz.lays122_ren:Go.Shelf.Ren:=⟨fun|122=>46|215=>67|n=>n,fun|3=>3|4=>4|n=>n,fun|n=>n⟩
theorem lA:Go.Proofs.Lays.n122 π Tryz.lays122_ren:={
 mixed:=by kernel_rfl
 f122:=Tryz.func46.trans (congrArg W (by kernel_rfl))
 f215:=Tryz.func67.trans (congrArg W (by kernel_rfl))
 t3:=Tryz.underlying3
 a3:=Tryz.isAgg3
 z3:=Tryz.sizeOf3
 v3:=Tryz.zeroValue3
 t4:=Tryz.underlying4
 a4:=Tryz.isAgg4
 z4:=Tryz.sizeOf4
 v4:=Tryz.zeroValue4 }
open Go.RowKit in
theorem Tryz.cmp_Compare_int (x a:Int) (w:World):
 Calls π 46 #[V I x,V I a] w λe w'=>e=ρ (V I (Lib.compareInt x a))/\w'=w:=Any.cmp_Compare_int lA x a w
open Go.RowKit in
theorem Tryz.Builder_String_any_f (B a:Nat) (l:List UInt8) (w:World) (c:Lib.IsBuilderF 38 5 B a (Lib.byteCells l) w) (b:B<=w.heap.size):
 Calls π 17 #[Z (W ⟨a,0,O⟩)] w λe w'=>e=ρ (U ⟨l.toArray⟩)/\(Lib.IsBuilderF 38 5 B a (Lib.byteCells l) w'/\Below B w w'):=Any.Builder_String_any_f eN Tryz.Builder_Extra_169 B a l w c b
open Go.RowKit in
theorem Tryz.Builder_String_any_k (B a:Nat) (l:List UInt8) (w:World) (c:Lib.IsBuilderF 38 5 B a (Lib.byteCells l) w) (b:B<=w.heap.size):
 Calls π 17 #[Z (W ⟨a,0,O⟩)] w λe w'=>e=ρ (U ⟨l.toArray⟩)/\(Lib.IsBuilderF 38 5 B a (Lib.byteCells l) w'/\Below B w w'/\Lib.OthersKept 5 (W a) w w'):=Any.Builder_String_any_k eN Tryz.Builder_Extra_169 B a l w c b
def Tryz.lays242_ren:Go.Shelf.Ren:=⟨fun|242=>31|278=>50|n=>n,fun|37=>36|21=>21|51=>96|4=>4|5=>5|46=>50|n=>n,fun|n=>n⟩
theorem ll:Go.Proofs.Lays.n242 π Tryz.lays242_ren:={
 mixed:=by kernel_rfl
 f242:=Tryz.func31.trans (congrArg W (by kernel_rfl))
 f278:=Tryz.func50.trans (congrArg W (by kernel_rfl))
 t4:=Tryz.underlying4
 a4:=Tryz.isAgg4
 z4:=Tryz.sizeOf4
 v4:=Tryz.zeroValue4
 t5:=Tryz.underlying5
 a5:=Tryz.isAgg5
 z5:=Tryz.sizeOf5
 v5:=Tryz.zeroValue5
 t21:=Tryz.underlying21
 a21:=Tryz.isAgg21
 z21:=Tryz.sizeOf21
 v21:=Tryz.zeroValue21
 t37:=Tryz.underlying36
 a37:=Tryz.isAgg36
 z37:=Tryz.sizeOf36
 v37:=Tryz.zeroValue36
 t46:=Tryz.underlying50
 a46:=Tryz.isAgg50
 z46:=Tryz.sizeOf50
 v46:=Tryz.zeroValue50
 t51:=Tryz.underlying96
 a51:=Tryz.isAgg96
 z51:=Tryz.sizeOf96
 v51:=Tryz.zeroValue96 }
open Go.RowKit in
theorem Tryz.utf8_AppendRune_row (B:Nat) (v:Value) (n:Nat) (xs:List Value) (a:Int) (d:-2147483648<=a) (i:a<=2147483647) (w:World) (c:w.ownsRowF B 5 1 v n xs) (g:n+4<=140737488355328) (f:B<=w.heap.size):
 Calls π 31 #[v,V .i32 a] w λe w'=>∃b,e=ρ b/\w'.ownsRowF B 5 1 b (n+(Lib.runeCells a).length) (xs++Lib.runeCells a)/\∃o,(w.alloc o).grownBy w' v.ownBlock:=Any.utf8_AppendRune_row ll (by kernel_rfl) B v n xs a d i w c g f
def Tryz.lays172_ren:Go.Shelf.Ren:=⟨fun|172=>310|244=>323|245=>324|247=>332|279=>333|280=>334|281=>335|282=>336|287=>339|316=>340|171=>40|205=>341|321=>343|322=>344|243=>64|246=>96|283=>135|284=>136|285=>137|286=>138|129=>184|317=>183|318=>185|319=>186|320=>187|337=>222|338=>223|n=>n,fun|9=>9|3=>3|75=>41|76=>42|4=>4|5=>5|167=>507|37=>36|0=>0|85=>508|2=>2|168=>510|53=>280|175=>515|46=>50|210=>519|127=>71|145=>524|143=>522|21=>21|171=>279|173=>283|212=>351|51=>96|20=>20|213=>352|232=>420|233=>421|80=>51|n=>n,fun|15=>8|16=>9|17=>4|18=>6|19=>7|n=>n⟩
theorem lp:Go.Proofs.Lays.n172 π Tryz.lays172_ren:={
 mixed:=by kernel_rfl
 f129:=Tryz.func184.trans (congrArg W (by kernel_rfl))
 f171:=Tryz.func40.trans (congrArg W (by kernel_rfl))
 f172:=Tryz.func310.trans (congrArg W (by kernel_rfl))
 f205:=Tryz.func341.trans (congrArg W (by kernel_rfl))
 f243:=Tryz.func64.trans (congrArg W (by kernel_rfl))
 f244:=Tryz.func323.trans (congrArg W (by kernel_rfl))
 f245:=Tryz.func324.trans (congrArg W (by kernel_rfl))
 f246:=Tryz.func96.trans (congrArg W (by kernel_rfl))
 f247:=Tryz.func332.trans (congrArg W (by kernel_rfl))
 f279:=Tryz.func333.trans (congrArg W (by kernel_rfl))
 f280:=Tryz.func334.trans (congrArg W (by kernel_rfl))
 f281:=Tryz.func335.trans (congrArg W (by kernel_rfl))
 f282:=Tryz.func336.trans (congrArg W (by kernel_rfl))
 f283:=Tryz.func135.trans (congrArg W (by kernel_rfl))
 f284:=Tryz.func136.trans (congrArg W (by kernel_rfl))
 f285:=Tryz.func137.trans (congrArg W (by kernel_rfl))
 f286:=Tryz.func138.trans (congrArg W (by kernel_rfl))
 f287:=Tryz.func339.trans (congrArg W (by kernel_rfl))
 f316:=Tryz.func340.trans (congrArg W (by kernel_rfl))
 f317:=Tryz.func183.trans (congrArg W (by kernel_rfl))
 f318:=Tryz.func185.trans (congrArg W (by kernel_rfl))
 f319:=Tryz.func186.trans (congrArg W (by kernel_rfl))
 f320:=Tryz.func187.trans (congrArg W (by kernel_rfl))
 f321:=Tryz.func343.trans (congrArg W (by kernel_rfl))
 f322:=Tryz.func344.trans (congrArg W (by kernel_rfl))
 f337:=Tryz.func222.trans (congrArg W (by kernel_rfl))
 f338:=Tryz.func223.trans (congrArg W (by kernel_rfl))
 t0:=Tryz.underlying0
 a0:=Tryz.isAgg0
 z0:=Tryz.sizeOf0
 v0:=Tryz.zeroValue0
 t2:=Tryz.underlying2
 a2:=Tryz.isAgg2
 z2:=Tryz.sizeOf2
 v2:=Tryz.zeroValue2
 t3:=Tryz.underlying3
 a3:=Tryz.isAgg3
 z3:=Tryz.sizeOf3
 v3:=Tryz.zeroValue3
 t4:=Tryz.underlying4
 a4:=Tryz.isAgg4
 z4:=Tryz.sizeOf4
 v4:=Tryz.zeroValue4
 t5:=Tryz.underlying5
 a5:=Tryz.isAgg5
 z5:=Tryz.sizeOf5
 v5:=Tryz.zeroValue5
 t9:=Tryz.underlying9
 a9:=Tryz.isAgg9
 z9:=Tryz.sizeOf9
 v9:=Tryz.zeroValue9
 t20:=Tryz.underlying20
 a20:=Tryz.isAgg20
 z20:=Tryz.sizeOf20
 v20:=Tryz.zeroValue20
 t21:=Tryz.underlying21
 a21:=Tryz.isAgg21
 z21:=Tryz.sizeOf21
 v21:=Tryz.zeroValue21
 t37:=Tryz.underlying36
 a37:=Tryz.isAgg36
 z37:=Tryz.sizeOf36
 v37:=Tryz.zeroValue36
 t46:=Tryz.underlying50
 a46:=Tryz.isAgg50
 z46:=Tryz.sizeOf50
 v46:=Tryz.zeroValue50
 t51:=Tryz.underlying96
 a51:=Tryz.isAgg96
 z51:=Tryz.sizeOf96
 v51:=Tryz.zeroValue96
 t53:=Tryz.underlying280
 a53:=Tryz.isAgg280
 z53:=Tryz.sizeOf280
 v53:=Tryz.zeroValue280
 t75:=Tryz.underlying41
 a75:=Tryz.isAgg41
 z75:=Tryz.sizeOf41
 v75:=Tryz.zeroValue41
 t76:=Tryz.underlying42
 a76:=Tryz.isAgg42
 z76:=Tryz.sizeOf42
 v76:=Tryz.zeroValue42
 t85:=Tryz.underlying508
 a85:=Tryz.isAgg508
 z85:=Tryz.sizeOf508
 v85:=Tryz.zeroValue508
 t127:=Tryz.underlying71
 a127:=Tryz.isAgg71
 z127:=Tryz.sizeOf71
 v127:=Tryz.zeroValue71
 t143:=Tryz.underlying522
 a143:=Tryz.isAgg522
 z143:=Tryz.sizeOf522
 v143:=Tryz.zeroValue522
 t145:=Tryz.underlying524
 a145:=Tryz.isAgg524
 z145:=Tryz.sizeOf524
 v145:=Tryz.zeroValue524
 t167:=Tryz.underlying507
 a167:=Tryz.isAgg507
 z167:=Tryz.sizeOf507
 v167:=Tryz.zeroValue507
 t168:=Tryz.underlying510
 a168:=Tryz.isAgg510
 z168:=Tryz.sizeOf510
 v168:=Tryz.zeroValue510
 t171:=Tryz.underlying279
 a171:=Tryz.isAgg279
 z171:=Tryz.sizeOf279
 v171:=Tryz.zeroValue279
 t173:=Tryz.underlying283
 a173:=Tryz.isAgg283
 z173:=Tryz.sizeOf283
 v173:=Tryz.zeroValue283
 t175:=Tryz.underlying515
 a175:=Tryz.isAgg515
 z175:=Tryz.sizeOf515
 v175:=Tryz.zeroValue515
 t210:=Tryz.underlying519
 a210:=Tryz.isAgg519
 z210:=Tryz.sizeOf519
 v210:=Tryz.zeroValue519
 t212:=Tryz.underlying351
 a212:=Tryz.isAgg351
 z212:=Tryz.sizeOf351
 v212:=Tryz.zeroValue351
 t213:=Tryz.underlying352
 a213:=Tryz.isAgg352
 z213:=Tryz.sizeOf352
 t232:=Tryz.underlying420
 a232:=Tryz.isAgg420
 z232:=Tryz.sizeOf420
 v232:=Tryz.zeroValue420
 t233:=Tryz.underlying421
 a233:=Tryz.isAgg421
 z233:=Tryz.sizeOf421
 v233:=Tryz.zeroValue421
 g15:=by kernel_rfl
 g16:=by kernel_rfl
 g17:=by kernel_rfl
 g18:=by kernel_rfl
 g19:=by kernel_rfl }
open Go.RowKit in
theorem Tryz.strconv_Atoi (s:ByteArray) (n:Int) (a:s.size<=18) (b:Lib.atoi s.data.toList=W n) (w:World):
 Calls π 310 #[U s] w λe w'=>e=ρ (.tuple #[V I n,.nilIface])/\∃t,w'=Lib.bytesWorld w 5 t:=Any.strconv_Atoi lp s n a b w
def Tryz.laysM171_ren:Go.Shelf.Ren:=⟨fun|171=>40|243=>64|246=>96|283=>135|284=>136|285=>137|286=>138|129=>184|317=>183|318=>185|319=>186|320=>187|337=>222|338=>223|n=>n,fun|3=>3|9=>9|2=>2|4=>4|171=>279|0=>0|53=>280|37=>36|5=>5|173=>283|212=>351|51=>96|20=>20|213=>352|46=>50|232=>420|233=>421|n=>n,fun|17=>4|18=>6|19=>7|n=>n⟩
theorem jx:Go.Proofs.LaysM.n171 π Tryz.laysM171_ren:={
 mixed:=by kernel_rfl
 f129:=Tryz.func184.trans (congrArg W (by kernel_rfl))
 f171:=Tryz.func40.trans (congrArg W (by kernel_rfl))
 f243:=Tryz.func64.trans (congrArg W (by kernel_rfl))
 f246:=Tryz.func96.trans (congrArg W (by kernel_rfl))
 f283:=Tryz.func135.trans (congrArg W (by kernel_rfl))
 f284:=Tryz.func136.trans (congrArg W (by kernel_rfl))
 f285:=Tryz.func137.trans (congrArg W (by kernel_rfl))
 f286:=Tryz.func138.trans (congrArg W (by kernel_rfl))
 f317:=Tryz.func183.trans (congrArg W (by kernel_rfl))
 f318:=Tryz.func185.trans (congrArg W (by kernel_rfl))
 f319:=Tryz.func186.trans (congrArg W (by kernel_rfl))
 f320:=Tryz.func187.trans (congrArg W (by kernel_rfl))
 f337:=Tryz.func222.trans (congrArg W (by kernel_rfl))
 f338:=Tryz.func223.trans (congrArg W (by kernel_rfl))
 t0:=Tryz.underlying0
 a0:=Tryz.isAgg0
 z0:=Tryz.sizeOf0
 v0:=Tryz.zeroValue0
 t2:=Tryz.underlying2
 a2:=Tryz.isAgg2
 z2:=Tryz.sizeOf2
 v2:=Tryz.zeroValue2
 t3:=Tryz.underlying3
 a3:=Tryz.isAgg3
 z3:=Tryz.sizeOf3
 v3:=Tryz.zeroValue3
 t4:=Tryz.underlying4
 a4:=Tryz.isAgg4
 z4:=Tryz.sizeOf4
 v4:=Tryz.zeroValue4
 t5:=Tryz.underlying5
 a5:=Tryz.isAgg5
 z5:=Tryz.sizeOf5
 v5:=Tryz.zeroValue5
 t9:=Tryz.underlying9
 a9:=Tryz.isAgg9
 z9:=Tryz.sizeOf9
 v9:=Tryz.zeroValue9
 t20:=Tryz.underlying20
 a20:=Tryz.isAgg20
 z20:=Tryz.sizeOf20
 v20:=Tryz.zeroValue20
 t37:=Tryz.underlying36
 a37:=Tryz.isAgg36
 z37:=Tryz.sizeOf36
 v37:=Tryz.zeroValue36
 t46:=Tryz.underlying50
 a46:=Tryz.isAgg50
 z46:=Tryz.sizeOf50
 v46:=Tryz.zeroValue50
 t51:=Tryz.underlying96
 a51:=Tryz.isAgg96
 z51:=Tryz.sizeOf96
 v51:=Tryz.zeroValue96
 t53:=Tryz.underlying280
 a53:=Tryz.isAgg280
 z53:=Tryz.sizeOf280
 v53:=Tryz.zeroValue280
 t171:=Tryz.underlying279
 a171:=Tryz.isAgg279
 z171:=Tryz.sizeOf279
 v171:=Tryz.zeroValue279
 t173:=Tryz.underlying283
 a173:=Tryz.isAgg283
 z173:=Tryz.sizeOf283
 v173:=Tryz.zeroValue283
 t212:=Tryz.underlying351
 a212:=Tryz.isAgg351
 z212:=Tryz.sizeOf351
 v212:=Tryz.zeroValue351
 t213:=Tryz.underlying352
 a213:=Tryz.isAgg352
 z213:=Tryz.sizeOf352
 t232:=Tryz.underlying420
 a232:=Tryz.isAgg420
 z232:=Tryz.sizeOf420
 v232:=Tryz.zeroValue420
 t233:=Tryz.underlying421
 a233:=Tryz.isAgg421
 z233:=Tryz.sizeOf421
 v233:=Tryz.zeroValue421
 g17:=by kernel_rfl
 g18:=by kernel_rfl
 g19:=by kernel_rfl
 i0:=by kernel_rfl
 i2:=by kernel_rfl
 i3:=by kernel_rfl
 i4:=by kernel_rfl
 i5:=by kernel_rfl
 i9:=by kernel_rfl
 i20:=by kernel_rfl
 i37:=by kernel_rfl
 i46:=by kernel_rfl
 i51:=by kernel_rfl
 i53:=by kernel_rfl
 i171:=by kernel_rfl
 i173:=by kernel_rfl
 i212:=by kernel_rfl
 i232:=by kernel_rfl
 i233:=by kernel_rfl
 m17:=by kernel_rfl
 m18:=by kernel_rfl
 m19:=by kernel_rfl }
open Go.RowKit Go.Sort Go.Lib in
theorem Tryz.strconv_Itoa (n:Int) (d:-9223372036854775808<=n) (b:n<=9223372036854775807) (w:World) (c:Lib.TabIs π w "internal/strconv.uint64pow10" .u64 Lib.pow10Tab):
 Calls π 40 #[V I n] w λe w'=>e=ρ (U ⟨(Lib.itoa n).toArray⟩)/\∃k a,w'=grow (w.drewN k) a:=Any.strconv_Itoa jx n d b w c
def Tryz.lays145_ren:Go.Shelf.Ren:=⟨fun|145=>100|220=>140|219=>189|217=>224|225=>225|224=>226|267=>227|266=>255|314=>256|n=>n,fun|9=>9|4=>4|59=>208|3=>3|5=>5|46=>50|146=>422|51=>96|n=>n,fun|1=>5|n=>n⟩
theorem ly:Go.Proofs.Lays.n145 π Tryz.lays145_ren:={
 mixed:=by kernel_rfl
 f145:=Tryz.func100.trans (congrArg W (by kernel_rfl))
 f217:=Tryz.func224.trans (congrArg W (by kernel_rfl))
 f219:=Tryz.func189.trans (congrArg W (by kernel_rfl))
 f220:=Tryz.func140.trans (congrArg W (by kernel_rfl))
 f224:=Tryz.func226.trans (congrArg W (by kernel_rfl))
 f225:=Tryz.func225.trans (congrArg W (by kernel_rfl))
 f266:=Tryz.func255.trans (congrArg W (by kernel_rfl))
 f267:=Tryz.func227.trans (congrArg W (by kernel_rfl))
 f314:=Tryz.func256.trans (congrArg W (by kernel_rfl))
 t3:=Tryz.underlying3
 a3:=Tryz.isAgg3
 z3:=Tryz.sizeOf3
 v3:=Tryz.zeroValue3
 t4:=Tryz.underlying4
 a4:=Tryz.isAgg4
 z4:=Tryz.sizeOf4
 v4:=Tryz.zeroValue4
 t5:=Tryz.underlying5
 a5:=Tryz.isAgg5
 z5:=Tryz.sizeOf5
 v5:=Tryz.zeroValue5
 t9:=Tryz.underlying9
 a9:=Tryz.isAgg9
 z9:=Tryz.sizeOf9
 v9:=Tryz.zeroValue9
 t46:=Tryz.underlying50
 a46:=Tryz.isAgg50
 z46:=Tryz.sizeOf50
 v46:=Tryz.zeroValue50
 t51:=Tryz.underlying96
 a51:=Tryz.isAgg96
 z51:=Tryz.sizeOf96
 v51:=Tryz.zeroValue96
 t59:=Tryz.underlying208
 a59:=Tryz.isAgg208
 z59:=Tryz.sizeOf208
 v59:=Tryz.zeroValue208
 t146:=Tryz.underlying422
 a146:=Tryz.isAgg422
 z146:=Tryz.sizeOf422
 v146:=Tryz.zeroValue422
 g1:=by kernel_rfl }
open Go.RowKit Go.Lib in
theorem Tryz.strings_Cut (s a:ByteArray) (m:Int) (w:World) (c:s.size < 4294967281) (b:w.cell? ⟨5,0,O⟩=W (V I m)):
 Calls π 100 #[U s,U a] w λe w'=>e=ρ (.tuple #[U ⟨(Lib.cut s.data.toList a.data.toList).1.toArray⟩,U ⟨(Lib.cut s.data.toList a.data.toList).2.1.toArray⟩,β (Lib.cut s.data.toList a.data.toList).2.2])/\∃n,w'=w.drewN n:=Any.strings_Cut ly s a m w c b
def Tryz.laysM145_ren:Go.Shelf.Ren:=⟨fun|145=>100|220=>140|219=>189|217=>224|225=>225|224=>226|267=>227|266=>255|314=>256|n=>n,fun|9=>9|4=>4|59=>208|3=>3|5=>5|46=>50|146=>422|51=>96|n=>n,fun|1=>5|n=>n⟩
theorem Tryz.laysM145:Go.Proofs.LaysM.n145 π Tryz.laysM145_ren:={
 mixed:=by kernel_rfl
 f145:=Tryz.func100.trans (congrArg W (by kernel_rfl))
 f217:=Tryz.func224.trans (congrArg W (by kernel_rfl))
 f219:=Tryz.func189.trans (congrArg W (by kernel_rfl))
 f220:=Tryz.func140.trans (congrArg W (by kernel_rfl))
 f224:=Tryz.func226.trans (congrArg W (by kernel_rfl))
 f225:=Tryz.func225.trans (congrArg W (by kernel_rfl))
 f266:=Tryz.func255.trans (congrArg W (by kernel_rfl))
 f267:=Tryz.func227.trans (congrArg W (by kernel_rfl))
 f314:=Tryz.func256.trans (congrArg W (by kernel_rfl))
 t3:=Tryz.underlying3
 a3:=Tryz.isAgg3
 z3:=Tryz.sizeOf3
 v3:=Tryz.zeroValue3
 t4:=Tryz.underlying4
 a4:=Tryz.isAgg4
 z4:=Tryz.sizeOf4
 v4:=Tryz.zeroValue4
 t5:=Tryz.underlying5
 a5:=Tryz.isAgg5
 z5:=Tryz.sizeOf5
 v5:=Tryz.zeroValue5
 t9:=Tryz.underlying9
 a9:=Tryz.isAgg9
 z9:=Tryz.sizeOf9
 v9:=Tryz.zeroValue9
 t46:=Tryz.underlying50
 a46:=Tryz.isAgg50
 z46:=Tryz.sizeOf50
 v46:=Tryz.zeroValue50
 t51:=Tryz.underlying96
 a51:=Tryz.isAgg96
 z51:=Tryz.sizeOf96
 v51:=Tryz.zeroValue96
 t59:=Tryz.underlying208
 a59:=Tryz.isAgg208
 z59:=Tryz.sizeOf208
 v59:=Tryz.zeroValue208
 t146:=Tryz.underlying422
 a146:=Tryz.isAgg422
 z146:=Tryz.sizeOf422
 v146:=Tryz.zeroValue422
 g1:=by kernel_rfl
 i3:=by kernel_rfl
 i4:=by kernel_rfl
 i5:=by kernel_rfl
 i9:=by kernel_rfl
 i46:=by kernel_rfl
 i51:=by kernel_rfl
 i59:=by kernel_rfl
 i146:=by kernel_rfl
 m1:=by kernel_rfl
 s1_3:=λw a=>Go.Proofs.cell_of_shapedOpen_int (zero:=#[V I 0]) (t:=3) a (of_decide_eq_true (by kernel_rfl)) (by kernel_rfl) rfl (by kernel_rfl) (by kernel_rfl) Tryz.underlying3 }
def Tryz.lays272_ren:Go.Shelf.Ren:=⟨fun|272=>286|315=>231|n=>n,fun|9=>9|40=>49|4=>4|3=>3|0=>0|21=>21|n=>n,fun|n=>n⟩
theorem lk:Go.Proofs.Lays.n272 π Tryz.lays272_ren:={
 mixed:=by kernel_rfl
 f272:=Tryz.func286.trans (congrArg W (by kernel_rfl))
 f315:=Tryz.func231.trans (congrArg W (by kernel_rfl))
 t0:=Tryz.underlying0
 a0:=Tryz.isAgg0
 z0:=Tryz.sizeOf0
 v0:=Tryz.zeroValue0
 t3:=Tryz.underlying3
 a3:=Tryz.isAgg3
 z3:=Tryz.sizeOf3
 v3:=Tryz.zeroValue3
 t4:=Tryz.underlying4
 a4:=Tryz.isAgg4
 z4:=Tryz.sizeOf4
 v4:=Tryz.zeroValue4
 t9:=Tryz.underlying9
 a9:=Tryz.isAgg9
 z9:=Tryz.sizeOf9
 v9:=Tryz.zeroValue9
 t21:=Tryz.underlying21
 a21:=Tryz.isAgg21
 z21:=Tryz.sizeOf21
 v21:=Tryz.zeroValue21
 t40:=Tryz.underlying49
 a40:=Tryz.isAgg49
 z40:=Tryz.sizeOf49
 v40:=Tryz.zeroValue49 }
def Tryz.laysGw17_ren:Go.Shelf.Ren:=⟨fun|17=>150|15=>194|20=>231|n=>n,fun|9=>9|23=>49|4=>4|3=>3|0=>0|21=>21|n=>n,fun|n=>n⟩
theorem jy:Go.Proofs.LaysGw.n17 π Tryz.laysGw17_ren:={
 mixed:=by kernel_rfl
 f15:=Tryz.func194.trans (congrArg W (by kernel_rfl))
 f17:=Tryz.func150.trans (congrArg W (by kernel_rfl))
 f20:=Tryz.func231.trans (congrArg W (by kernel_rfl))
 t0:=Tryz.underlying0
 a0:=Tryz.isAgg0
 z0:=Tryz.sizeOf0
 v0:=Tryz.zeroValue0
 i0:=by kernel_rfl
 t3:=Tryz.underlying3
 a3:=Tryz.isAgg3
 z3:=Tryz.sizeOf3
 v3:=Tryz.zeroValue3
 i3:=by kernel_rfl
 t4:=Tryz.underlying4
 a4:=Tryz.isAgg4
 z4:=Tryz.sizeOf4
 v4:=Tryz.zeroValue4
 i4:=by kernel_rfl
 t9:=Tryz.underlying9
 a9:=Tryz.isAgg9
 z9:=Tryz.sizeOf9
 v9:=Tryz.zeroValue9
 i9:=by kernel_rfl
 t21:=Tryz.underlying21
 a21:=Tryz.isAgg21
 z21:=Tryz.sizeOf21
 v21:=Tryz.zeroValue21
 i21:=by kernel_rfl
 t23:=Tryz.underlying49
 a23:=Tryz.isAgg49
 z23:=Tryz.sizeOf49
 v23:=Tryz.zeroValue49
 i23:=by kernel_rfl }
def Tryz.lays99_ren:Go.Shelf.Ren:=⟨fun|99=>252|206=>228|n=>n,fun|9=>9|4=>4|3=>3|n=>n,fun|n=>n⟩
theorem m5:Go.Proofs.Lays.n99 π Tryz.lays99_ren:={
 mixed:=by kernel_rfl
 f99:=Tryz.func252.trans (congrArg W (by kernel_rfl))
 f206:=Tryz.func228.trans (congrArg W (by kernel_rfl))
 t3:=Tryz.underlying3
 a3:=Tryz.isAgg3
 z3:=Tryz.sizeOf3
 v3:=Tryz.zeroValue3
 t4:=Tryz.underlying4
 a4:=Tryz.isAgg4
 z4:=Tryz.sizeOf4
 v4:=Tryz.zeroValue4
 t9:=Tryz.underlying9
 a9:=Tryz.isAgg9
 z9:=Tryz.sizeOf9
 v9:=Tryz.zeroValue9 }
open Go.RowKit Go.Lib in
theorem Tryz.strings_HasPrefix (s p:ByteArray) (w:World):
 Calls π 252 #[U s,U p] w λe w'=>e=ρ (β (Lib.hasPrefix s.data.toList p.data.toList))/\w'=w:=Any.strings_HasPrefix m5 s p w
def Tryz.lays101_ren:Go.Shelf.Ren:=⟨fun|101=>321|208=>331|206=>228|n=>n,fun|9=>9|4=>4|3=>3|n=>n,fun|n=>n⟩
theorem lF:Go.Proofs.Lays.n101 π Tryz.lays101_ren:={
 mixed:=by kernel_rfl
 f101:=Tryz.func321.trans (congrArg W (by kernel_rfl))
 f206:=Tryz.func228.trans (congrArg W (by kernel_rfl))
 f208:=Tryz.func331.trans (congrArg W (by kernel_rfl))
 t3:=Tryz.underlying3
 a3:=Tryz.isAgg3
 z3:=Tryz.sizeOf3
 v3:=Tryz.zeroValue3
 t4:=Tryz.underlying4
 a4:=Tryz.isAgg4
 z4:=Tryz.sizeOf4
 v4:=Tryz.zeroValue4
 t9:=Tryz.underlying9
 a9:=Tryz.isAgg9
 z9:=Tryz.sizeOf9
 v9:=Tryz.zeroValue9 }
open Go.RowKit Go.Lib in
theorem Tryz.strings_TrimPrefix (s p:ByteArray) (w:World):
 Calls π 321 #[U s,U p] w λe w'=>e=ρ (U ⟨(Lib.trimPrefix s.data.toList p.data.toList).toArray⟩)/\w'=w:=Any.strings_TrimPrefix lF s p w
def Tryz.lays197_ren:Go.Shelf.Ren:=⟨fun|197=>29|260=>48|n=>n,fun|9=>9|21=>21|3=>3|4=>4|5=>5|105=>68|119=>124|0=>0|46=>50|139=>127|138=>126|n=>n,fun|3=>0|4=>1|n=>n⟩
theorem lo:Go.Proofs.Lays.n197 π Tryz.lays197_ren:={
 mixed:=by kernel_rfl
 f197:=Tryz.func29.trans (congrArg W (by kernel_rfl))
 f260:=Tryz.func48.trans (congrArg W (by kernel_rfl))
 t0:=Tryz.underlying0
 a0:=Tryz.isAgg0
 z0:=Tryz.sizeOf0
 v0:=Tryz.zeroValue0
 t3:=Tryz.underlying3
 a3:=Tryz.isAgg3
 z3:=Tryz.sizeOf3
 v3:=Tryz.zeroValue3
 t4:=Tryz.underlying4
 a4:=Tryz.isAgg4
 z4:=Tryz.sizeOf4
 v4:=Tryz.zeroValue4
 t5:=Tryz.underlying5
 a5:=Tryz.isAgg5
 z5:=Tryz.sizeOf5
 v5:=Tryz.zeroValue5
 t9:=Tryz.underlying9
 a9:=Tryz.isAgg9
 z9:=Tryz.sizeOf9
 v9:=Tryz.zeroValue9
 t21:=Tryz.underlying21
 a21:=Tryz.isAgg21
 z21:=Tryz.sizeOf21
 v21:=Tryz.zeroValue21
 t46:=Tryz.underlying50
 a46:=Tryz.isAgg50
 z46:=Tryz.sizeOf50
 v46:=Tryz.zeroValue50
 t105:=Tryz.underlying68
 a105:=Tryz.isAgg68
 z105:=Tryz.sizeOf68
 v105:=Tryz.zeroValue68
 t119:=Tryz.underlying124
 a119:=Tryz.isAgg124
 z119:=Tryz.sizeOf124
 t138:=Tryz.underlying126
 a138:=Tryz.isAgg126
 z138:=Tryz.sizeOf126
 v138:=Tryz.zeroValue126
 t139:=Tryz.underlying127
 a139:=Tryz.isAgg127
 z139:=Tryz.sizeOf127
 v139:=Tryz.zeroValue127
 g3:=by kernel_rfl
 g4:=by kernel_rfl }
def Tryz.lays151_ren:Go.Shelf.Ren:=⟨fun|151=>192|152=>229|137=>257|119=>258|224=>226|225=>225|217=>224|266=>255|n=>n,fun|9=>9|21=>21|4=>4|3=>3|5=>5|0=>0|46=>50|n=>n,fun|n=>n⟩
theorem lx:Go.Proofs.Lays.n151 π Tryz.lays151_ren:={
 mixed:=by kernel_rfl
 f119:=Tryz.func258.trans (congrArg W (by kernel_rfl))
 f137:=Tryz.func257.trans (congrArg W (by kernel_rfl))
 f151:=Tryz.func192.trans (congrArg W (by kernel_rfl))
 f152:=Tryz.func229.trans (congrArg W (by kernel_rfl))
 f217:=Tryz.func224.trans (congrArg W (by kernel_rfl))
 f224:=Tryz.func226.trans (congrArg W (by kernel_rfl))
 f225:=Tryz.func225.trans (congrArg W (by kernel_rfl))
 f266:=Tryz.func255.trans (congrArg W (by kernel_rfl))
 t0:=Tryz.underlying0
 a0:=Tryz.isAgg0
 z0:=Tryz.sizeOf0
 v0:=Tryz.zeroValue0
 t3:=Tryz.underlying3
 a3:=Tryz.isAgg3
 z3:=Tryz.sizeOf3
 v3:=Tryz.zeroValue3
 t4:=Tryz.underlying4
 a4:=Tryz.isAgg4
 z4:=Tryz.sizeOf4
 v4:=Tryz.zeroValue4
 t5:=Tryz.underlying5
 a5:=Tryz.isAgg5
 z5:=Tryz.sizeOf5
 v5:=Tryz.zeroValue5
 t9:=Tryz.underlying9
 a9:=Tryz.isAgg9
 z9:=Tryz.sizeOf9
 v9:=Tryz.zeroValue9
 t21:=Tryz.underlying21
 a21:=Tryz.isAgg21
 z21:=Tryz.sizeOf21
 v21:=Tryz.zeroValue21
 t46:=Tryz.underlying50
 a46:=Tryz.isAgg50
 z46:=Tryz.sizeOf50
 v46:=Tryz.zeroValue50 }
open Go.RowKit Go.Lib in
theorem Tryz.strings_ContainsRune_ascii (s:ByteArray) (a:Int) (w:World) (c:0<=a) (b:a < 128):
 Calls π 192 #[U s,V .i32 a] w λe w'=>e=ρ (β (decide (0<=Lib.indexByte s.data.toList a.toNat.toUInt8)))/\w'=w:=Any.strings_ContainsRune_ascii lx s a w c b
def Tryz.lays212_ren:Go.Shelf.Ren:=⟨fun|212=>251|263=>281|264=>282|n=>n,fun|46=>50|51=>96|146=>422|53=>280|148=>445|n=>n,fun|n=>n⟩
theorem lm:Go.Proofs.Lays.n212 π Tryz.lays212_ren:={
 mixed:=by kernel_rfl
 f212:=Tryz.func251.trans (congrArg W (by kernel_rfl))
 f263:=Tryz.func281.trans (congrArg W (by kernel_rfl))
 f264:=Tryz.func282.trans (congrArg W (by kernel_rfl))
 t46:=Tryz.underlying50
 a46:=Tryz.isAgg50
 z46:=Tryz.sizeOf50
 v46:=Tryz.zeroValue50
 t51:=Tryz.underlying96
 a51:=Tryz.isAgg96
 z51:=Tryz.sizeOf96
 v51:=Tryz.zeroValue96
 t53:=Tryz.underlying280
 a53:=Tryz.isAgg280
 z53:=Tryz.sizeOf280
 v53:=Tryz.zeroValue280
 t146:=Tryz.underlying422
 a146:=Tryz.isAgg422
 z146:=Tryz.sizeOf422
 v146:=Tryz.zeroValue422
 t148:=Tryz.underlying445
 a148:=Tryz.isAgg445
 z148:=Tryz.sizeOf445
 v148:=Tryz.zeroValue445 }
open Go.RowKit Go.Lib in
theorem Tryz.bits_Mul (x a:Nat) (c:x < 18446744073709551616) (b:a < 18446744073709551616) (w:World):
 Calls π 251 #[V .u64 x,V .u64 a] w λe w'=>e=ρ (.tuple #[V .u64 ((x * a / 18446744073709551616:Nat):Int),V .u64 ((x * a % 18446744073709551616:Nat):Int)])/\w'=w:=Any.bits_Mul lm x a c b w
def Tryz.lays105_ren:Go.Shelf.Ren:=⟨fun|105=>219|212=>251|99=>252|165=>220|166=>62|170=>253|169=>17|263=>281|264=>282|206=>228|240=>30|241=>254|276=>49|277=>283|n=>n,fun|9=>9|3=>3|4=>4|20=>20|0=>0|46=>50|109=>418|5=>5|72=>38|76=>42|51=>96|146=>422|53=>280|148=>445|70=>35|37=>36|75=>41|127=>71|164=>94|80=>51|n=>n,fun|n=>n⟩
theorem lD:Go.Proofs.Lays.n105 π Tryz.lays105_ren:={
 mixed:=by kernel_rfl
 f99:=Tryz.func252.trans (congrArg W (by kernel_rfl))
 f105:=Tryz.func219.trans (congrArg W (by kernel_rfl))
 f165:=Tryz.func220.trans (congrArg W (by kernel_rfl))
 f166:=Tryz.func62.trans (congrArg W (by kernel_rfl))
 f169:=Tryz.func17.trans (congrArg W (by kernel_rfl))
 f170:=Tryz.func253.trans (congrArg W (by kernel_rfl))
 f206:=Tryz.func228.trans (congrArg W (by kernel_rfl))
 f212:=Tryz.func251.trans (congrArg W (by kernel_rfl))
 f240:=Tryz.func30.trans (congrArg W (by kernel_rfl))
 f241:=Tryz.func254.trans (congrArg W (by kernel_rfl))
 f263:=Tryz.func281.trans (congrArg W (by kernel_rfl))
 f264:=Tryz.func282.trans (congrArg W (by kernel_rfl))
 f276:=Tryz.func49.trans (congrArg W (by kernel_rfl))
 f277:=Tryz.func283.trans (congrArg W (by kernel_rfl))
 t0:=Tryz.underlying0
 a0:=Tryz.isAgg0
 z0:=Tryz.sizeOf0
 v0:=Tryz.zeroValue0
 t3:=Tryz.underlying3
 a3:=Tryz.isAgg3
 z3:=Tryz.sizeOf3
 v3:=Tryz.zeroValue3
 t4:=Tryz.underlying4
 a4:=Tryz.isAgg4
 z4:=Tryz.sizeOf4
 v4:=Tryz.zeroValue4
 t5:=Tryz.underlying5
 a5:=Tryz.isAgg5
 z5:=Tryz.sizeOf5
 v5:=Tryz.zeroValue5
 t9:=Tryz.underlying9
 a9:=Tryz.isAgg9
 z9:=Tryz.sizeOf9
 v9:=Tryz.zeroValue9
 t20:=Tryz.underlying20
 a20:=Tryz.isAgg20
 z20:=Tryz.sizeOf20
 v20:=Tryz.zeroValue20
 t37:=Tryz.underlying36
 a37:=Tryz.isAgg36
 z37:=Tryz.sizeOf36
 v37:=Tryz.zeroValue36
 t46:=Tryz.underlying50
 a46:=Tryz.isAgg50
 z46:=Tryz.sizeOf50
 v46:=Tryz.zeroValue50
 t51:=Tryz.underlying96
 a51:=Tryz.isAgg96
 z51:=Tryz.sizeOf96
 v51:=Tryz.zeroValue96
 t53:=Tryz.underlying280
 a53:=Tryz.isAgg280
 z53:=Tryz.sizeOf280
 v53:=Tryz.zeroValue280
 t70:=Tryz.underlying35
 a70:=Tryz.isAgg35
 z70:=Tryz.sizeOf35
 v70:=Tryz.zeroValue35
 t72:=Tryz.underlying38
 a72:=Tryz.isAgg38
 z72:=Tryz.sizeOf38
 v72:=Tryz.zeroValue38
 t75:=Tryz.underlying41
 a75:=Tryz.isAgg41
 z75:=Tryz.sizeOf41
 v75:=Tryz.zeroValue41
 t76:=Tryz.underlying42
 a76:=Tryz.isAgg42
 z76:=Tryz.sizeOf42
 v76:=Tryz.zeroValue42
 t109:=Tryz.underlying418
 a109:=Tryz.isAgg418
 z109:=Tryz.sizeOf418
 v109:=Tryz.zeroValue418
 t127:=Tryz.underlying71
 a127:=Tryz.isAgg71
 z127:=Tryz.sizeOf71
 v127:=Tryz.zeroValue71
 t146:=Tryz.underlying422
 a146:=Tryz.isAgg422
 z146:=Tryz.sizeOf422
 v146:=Tryz.zeroValue422
 t148:=Tryz.underlying445
 a148:=Tryz.isAgg445
 z148:=Tryz.sizeOf445
 v148:=Tryz.zeroValue445
 t164:=Tryz.underlying94
 a164:=Tryz.isAgg94
 z164:=Tryz.sizeOf94
 v164:=Tryz.zeroValue94 }
theorem cG:Builder.Extra π Tryz.lays105_ren:={
 sizeBuilder:=by kernel_rfl
 liesBuilder:=by kernel_rfl
 t5:=Tryz.underlying5
 a5:=Tryz.isAgg5
 z5:=Tryz.sizeOf5
 v5:=Tryz.zeroValue5
 infoByte:=by kernel_rfl
 cellsByte:=by kernel_rfl
 sizeByte:=by kernel_rfl
 neB5:=by decide }
open Go.RowKit Go.Lib in
theorem Tryz.strings_Repeat_main (s:ByteArray) (a:Nat) (w:World) (b:2<=a) (f:a<=9223372036854775807) (c:s.size * a<=140737488355328) (d:0 < s.size):
 Calls π 219 #[U s,V I a] w λe w'=>e=ρ (U ⟨(Lib.repeatL s.data.toList a).toArray⟩)/\Below w.heap.size w w':=Any.strings_Repeat_main lD cG s a w b f c d
def Tryz.lays260_ren:Go.Shelf.Ren:=⟨fun|260=>48|n=>n,fun|9=>9|21=>21|3=>3|4=>4|5=>5|119=>124|0=>0|46=>50|139=>127|138=>126|n=>n,fun|3=>0|4=>1|n=>n⟩
theorem Tryz.lays260:Go.Proofs.Lays.n260 π Tryz.lays260_ren:={
 mixed:=by kernel_rfl
 f260:=Tryz.func48.trans (congrArg W (by kernel_rfl))
 t0:=Tryz.underlying0
 a0:=Tryz.isAgg0
 z0:=Tryz.sizeOf0
 v0:=Tryz.zeroValue0
 t3:=Tryz.underlying3
 a3:=Tryz.isAgg3
 z3:=Tryz.sizeOf3
 v3:=Tryz.zeroValue3
 t4:=Tryz.underlying4
 a4:=Tryz.isAgg4
 z4:=Tryz.sizeOf4
 v4:=Tryz.zeroValue4
 t5:=Tryz.underlying5
 a5:=Tryz.isAgg5
 z5:=Tryz.sizeOf5
 v5:=Tryz.zeroValue5
 t9:=Tryz.underlying9
 a9:=Tryz.isAgg9
 z9:=Tryz.sizeOf9
 v9:=Tryz.zeroValue9
 t21:=Tryz.underlying21
 a21:=Tryz.isAgg21
 z21:=Tryz.sizeOf21
 v21:=Tryz.zeroValue21
 t46:=Tryz.underlying50
 a46:=Tryz.isAgg50
 z46:=Tryz.sizeOf50
 v46:=Tryz.zeroValue50
 t119:=Tryz.underlying124
 a119:=Tryz.isAgg124
 z119:=Tryz.sizeOf124
 t138:=Tryz.underlying126
 a138:=Tryz.isAgg126
 z138:=Tryz.sizeOf126
 v138:=Tryz.zeroValue126
 t139:=Tryz.underlying127
 a139:=Tryz.isAgg127
 z139:=Tryz.sizeOf127
 v139:=Tryz.zeroValue127
 g3:=by kernel_rfl
 g4:=by kernel_rfl }
open Go.RowKit Go.Lib in
theorem Tryz.utf8_DecodeRuneInString (s:ByteArray) (w:World) (a:Lib.Utf8Tabs 0 1 w):
 Calls π 29 #[U s] w λe w'=>e=ρ (.tuple #[V .i32 (Lib.decodeGo s).1,V I (Lib.decodeGo s).2])/\Below w.heap.size w w':=Any.utf8_DecodeRuneInString lo s w a
open Go.RowKit Go.Lib in
theorem Tryz.strings_TrimLeftFunc_grows (g:Nat) (lb:Array Value) (b:∀args w,(callFunc g args).run π w=.ok (.enter g args) w) (p:Nat->Bool) (s:ByteArray) (w:World) (a:PredGrows π g lb p w):
 Calls π 286 #[U s,φ (.func g) #[] lb] w λe w'=>e=ρ (U (Lib.trimLeftF p s))/\Below w.heap.size w w':=Any.strings_TrimLeftFunc_grows lk g lb b p s w a
open Go.RowKit Go.Lib in
theorem Tryz.strings_ContainsFunc_grows (g:Nat) (lb:Array Value) (b:∀args w,(callFunc g args).run π w=.ok (.enter g args) w) (p:Nat->Bool) (s:ByteArray) (w:World) (a:PredGrows π g lb p w):
 Calls π 150 #[U s,φ (.func g) #[] lb] w λe w'=>e=ρ (β (decide (0<=Lib.idxFunc p true s)))/\Below w.heap.size w w':=Any.strings_ContainsFunc_grows jy g lb b p s w a
def Tryz.laysNm215_ren:Go.Shelf.Ren:=⟨fun|15=>123|n=>n,fun|22=>122|3=>3|4=>4|n=>n,fun|n=>n⟩
theorem bZ:Go.Proofs.Lays2.n15 π Tryz.laysNm215_ren:={
 mixed:=by kernel_rfl
 f15:=Tryz.func123.trans (congrArg W (by kernel_rfl))
 t3:=Tryz.underlying3
 a3:=Tryz.isAgg3
 z3:=Tryz.sizeOf3
 v3:=Tryz.zeroValue3
 t4:=Tryz.underlying4
 a4:=Tryz.isAgg4
 z4:=Tryz.sizeOf4
 v4:=Tryz.zeroValue4
 t22:=Tryz.underlying122
 a22:=Tryz.isAgg122
 z22:=Tryz.sizeOf122
 v22:=Tryz.zeroValue122
 i3:=by kernel_rfl }
open Go.RowKit Go.Lib in
theorem Tryz.slices_Clone_int (d c n f:Nat) (a:List Int) (w:World) (k:n<=a.length) (g:n * 8<=140737488355328) (i:∀j,j < a.length->w.cell? ⟨d,c+j,O⟩=W (V I (a.getD j 0))):
 Calls π 123 #[Y (W ⟨d,c,O⟩) n f] w λe w'=>∃b,e=ρ b/\w'.ownsRow w.heap.size 3 1 b n ((a.take n).map (Value.int I))/\b≠Y O 0 0/\Below w.heap.size w w':=Any.slices_Clone_int bZ d c n f a w k g i
open Go.RowKit Go.Lib in
theorem Tryz.slices_Clone_int_nil (n a:Nat) (w:World):
 Calls π 123 #[Y O n a] w λe w'=>e=ρ (Y O 0 0)/\w'=w:=Any.slices_Clone_int_nil bZ n a w
open Go.RowKit Go.Lib in
theorem Tryz.slices_Clone_int_zero (a:Addr) (c:Nat) (w:World):
 Calls π 123 #[Y (W a) 0 c] w λe w'=>∃b,e=ρ b/\w'.ownsRow w.heap.size 3 1 b 0 []/\b≠Y O 0 0/\Below w.heap.size w w':=Any.slices_Clone_int_zero bZ a c w
def Tryz.laysSlE31_f272_ren:Go.Shelf.Ren:=⟨fun|31=>272|29=>299|n=>n,fun|22=>439|23=>4|4=>4|3=>3|0=>0|n=>n,fun|n=>n⟩
theorem dw:Go.Proofs.SlLaysE.n31 π Tryz.laysSlE31_f272_ren:={
 mixed:=by kernel_rfl
 f29:=⟨Tryz.f299.name,by decide,Tryz.func299.trans (congrArg W (by kernel_rfl))⟩
 f31:=⟨Tryz.f272.name,by decide,Tryz.func272.trans (congrArg W (by kernel_rfl))⟩
 t0:=Tryz.underlying0
 a0:=Tryz.isAgg0
 z0:=Tryz.sizeOf0
 v0:=Tryz.zeroValue0
 t3:=Tryz.underlying3
 a3:=Tryz.isAgg3
 z3:=Tryz.sizeOf3
 v3:=Tryz.zeroValue3
 t4:=Tryz.underlying4
 a4:=Tryz.isAgg4
 z4:=Tryz.sizeOf4
 v4:=Tryz.zeroValue4
 t22:=Tryz.underlying439
 a22:=Tryz.isAgg439
 z22:=Tryz.sizeOf439
 v22:=Tryz.zeroValue439
 a23:=Tryz.isAgg4
 z23:=Tryz.sizeOf4 }
open Go.Lib in
theorem bY {α:Type} [Inhabited α] (b:α->Value) (f:α->α->Bool) (k:EqlAt π 4 b f) (d c n g:Nat) (a:List α) (x:α) (w:World) (l:n<=a.length) (m:n<=9223372036854775807) (o:∀j,j < a.length->w.cell? ⟨d,c+j,O⟩=W (b a[j]!)):
 Calls π 272 #[Y (W ⟨d,c,O⟩) n g,b x] w λe w'=>e=ρ (β ((a.take n).any λi=>f x i))/\w'=w:=AnyE.slices_Contains dw b f k d c n g a x w l m o
def Tryz.laysSlE31_f325_ren:Go.Shelf.Ren:=⟨fun|31=>325|29=>337|n=>n,fun|22=>122|23=>3|4=>4|3=>3|0=>0|n=>n,fun|n=>n⟩
theorem du:Go.Proofs.SlLaysE.n31 π Tryz.laysSlE31_f325_ren:={
 mixed:=by kernel_rfl
 f29:=⟨Tryz.f337.name,by decide,Tryz.func337.trans (congrArg W (by kernel_rfl))⟩
 f31:=⟨Tryz.f325.name,by decide,Tryz.func325.trans (congrArg W (by kernel_rfl))⟩
 t0:=Tryz.underlying0
 a0:=Tryz.isAgg0
 z0:=Tryz.sizeOf0
 v0:=Tryz.zeroValue0
 t3:=Tryz.underlying3
 a3:=Tryz.isAgg3
 z3:=Tryz.sizeOf3
 v3:=Tryz.zeroValue3
 t4:=Tryz.underlying4
 a4:=Tryz.isAgg4
 z4:=Tryz.sizeOf4
 v4:=Tryz.zeroValue4
 t22:=Tryz.underlying122
 a22:=Tryz.isAgg122
 z22:=Tryz.sizeOf122
 v22:=Tryz.zeroValue122
 a23:=Tryz.isAgg3
 z23:=Tryz.sizeOf3 }
open Go.Lib in
theorem bX {α:Type} [Inhabited α] (b:α->Value) (f:α->α->Bool) (k:EqlAt π 3 b f) (d c n g:Nat) (a:List α) (x:α) (w:World) (l:n<=a.length) (m:n<=9223372036854775807) (o:∀j,j < a.length->w.cell? ⟨d,c+j,O⟩=W (b a[j]!)):
 Calls π 325 #[Y (W ⟨d,c,O⟩) n g,b x] w λe w'=>e=ρ (β ((a.take n).any λi=>f x i))/\w'=w:=AnyE.slices_Contains du b f k d c n g a x w l m o
def Tryz.laysSlH8_f278_ren:Go.Shelf.Ren:=⟨fun|8=>278|6=>301|n=>n,fun|22=>122|23=>3|25=>123|4=>4|3=>3|0=>0|n=>n,fun|n=>n⟩
theorem bU:Go.Proofs.SlLaysH.n8 π Tryz.laysSlH8_f278_ren:={
 mixed:=by kernel_rfl
 f6:=⟨Tryz.f301.name,by decide,Tryz.func301.trans (congrArg W (by kernel_rfl))⟩
 f8:=⟨Tryz.f278.name,by decide,Tryz.func278.trans (congrArg W (by kernel_rfl))⟩
 t0:=Tryz.underlying0
 a0:=Tryz.isAgg0
 z0:=Tryz.sizeOf0
 v0:=Tryz.zeroValue0
 t3:=Tryz.underlying3
 a3:=Tryz.isAgg3
 z3:=Tryz.sizeOf3
 v3:=Tryz.zeroValue3
 t4:=Tryz.underlying4
 a4:=Tryz.isAgg4
 z4:=Tryz.sizeOf4
 v4:=Tryz.zeroValue4
 t22:=Tryz.underlying122
 a22:=Tryz.isAgg122
 z22:=Tryz.sizeOf122
 v22:=Tryz.zeroValue122
 a23:=Tryz.isAgg3
 z23:=Tryz.sizeOf3
 t25:=Tryz.underlying123
 a25:=Tryz.isAgg123
 z25:=Tryz.sizeOf123
 v25:=Tryz.zeroValue123 }
open Go.RowKit Go.Lib in
theorem Tryz.slices_ContainsFunc {α:Type} [Inhabited α] (b:α->Value) (p:α->Bool) (g:Nat) (lb:Array Value) (i:∀args w,(callFunc g args).run π w=.ok (.enter g args) w) (d c n f:Nat) (a:List α) (w:World) (l:PredAt π g lb b p w) (k:n<=a.length) (m:n<=9223372036854775807) (o:∀j,j < a.length->w.cell? ⟨d,c+j,O⟩=W (b a[j]!)):
 Calls π 278 #[Y (W ⟨d,c,O⟩) n f,φ (.func g) #[] lb] w λe w'=>e=ρ (β ((a.take n).any p))/\∃q,w'=w.drewN q:=AnyE.slices_ContainsFunc bU b p g lb i d c n f a w l k m o
open Go.RowKit Go.Lib in
theorem Tryz.slices_ContainsFunc_empty {α:Type} [Inhabited α] (a:Option Addr) (b:Nat) (c:Value) (w:World):
 Calls π 278 #[Y a 0 b,c] w λe w'=>e=ρ (β false)/\w'=w:=AnyE.slices_ContainsFunc_empty bU a b c w
end Go.Proofs
namespace Go.Proofs.YtbikgdhbiebhcaaGreatDoor
open Go.RowKit Tryz
theorem iD(a:Nat)(w:World)(c:w.cell? ⟨a,0,O⟩=W (Z (W ⟨a,0,O⟩))):
 Calls π 30 #[Z (W ⟨a,0,O⟩)] w λe w'=>e=ρ (.tuple #[])/\w'=w:=by
 obtain⟨j,b,_⟩:=zN.1 Tryz.Builder_Extra_169.sizeBuilder
 go_enter func30,ntmps30
 go_wp2
 rw[Lib.run_neq_ptr_same w _ underlying35 b]
 go_wp2
 go_end0
 exact⟨rfl,rfl⟩
theorem gv(a:Nat)(w:World)(f:w.cell? ⟨a,0,O⟩=W (Z O))(b:w.shape? a=W (38,2))(g:w.frozen? ⟨a,0,O⟩=false):
 Calls π 30 #[Z (W ⟨a,0,O⟩)] w λe w'=>e=ρ (.tuple #[])/\w'=w.setCell ⟨a,0,O⟩ (Z (W ⟨a,0,O⟩)):=by
 obtain⟨j,c,d⟩:=zN.1 Tryz.Builder_Extra_169.sizeBuilder
 go_enter func30,ntmps30
 go_wp2
 rw[Lib.run_to_unsafe w ⟨a,0,O⟩ underlying35 underlying94 c (by rw[d];decide) b (Nat.zero_lt_succ 1)];simp only[Result.andThen];rw[Oper.upon_value]
 go_wp2
 rw[run_callFunc_extern func49 (by kernel_rfl) (by kernel_rfl) (by kernel_rfl) (e:=Extern.AbiNoEscape.same) (by kernel_rfl)];rw[Lib.run_noEscape];simp only[Result.andThen];rw[Oper.upon_value]
 go_wp2
 rw[Lib.run_from_unsafe w ⟨a,0,O⟩ underlying94 underlying35 c b Tryz.Builder_Extra_169.liesBuilder];simp only[Result.andThen];rw[Oper.upon_value]
 go_wp2
 go_end0
 exact⟨rfl,rfl⟩
theorem ld(B b:Nat)(c:List Value)(w:World)(a:Lib.IsBuilderF 38 5 B b c w):
 Calls π 30 #[Z (W ⟨b,0,O⟩)] w λe w'=>e=ρ (.tuple #[])/\(Lib.BuilderAtF 38 5 B b (Z (W ⟨b,0,O⟩)) c w'/\Below B w w'/\Lib.OthersKept 5 (W b) w w'):=by
 rcases a with a|a
 ·refine(gv b w a.cell0 a.shape a.frozen0).mono ?_
  rintro e w' ⟨rfl,rfl⟩;exact⟨rfl,a.used _,(ζ B w).setCell (p:=⟨b,0,O⟩) a.1 _,(Lib.OthersKept.refl _ _ w).setCell ⟨b,0,O⟩ rfl _⟩
 ·refine(iD b w a.cell0).mono ?_
  rintro e w' ⟨rfl,rfl⟩;exact⟨rfl,a,ζ B _,Lib.OthersKept.refl _ _ _⟩
theorem fa(B a:Nat)(b:List Value)(s:ByteArray)(w:World)(M:Lib.IsBuilderF 38 5 B a b w)(X:b.length+s.size<=140737488355328)(al:B<=w.heap.size):
 Calls π 62 #[Z (W ⟨a,0,O⟩),U s] w λe w'=>e=ρ (.tuple #[V I s.size,.nilIface])/\(Lib.BuilderAtF 38 5 B a (Z (W ⟨a,0,O⟩)) (b++Lib.strCells s) w'/\Below B w w'/\Lib.OthersKept 5 (W a) w w'):=by
 obtain⟨G,L,C,E,H⟩:=info_parts Tryz.Builder_Extra_169.infoByte
 go_enter func62,ntmps62
 go_wp2_with (go_at_call 30;refine(ld B a b _ M).mono ?_)
 rintro e c ⟨rfl,F,n,z⟩;obtain⟨u,v,d,j,y⟩:=F;have S:c.cell? ⟨a,0,O⟩=W (Z (W ⟨a,0,O⟩)):=by rw[Lib.cell_of_heap d];rfl
 have ab:c.cell? ⟨a,1,O⟩=W v:=by rw[Lib.cell_of_heap d];rfl
 go_wp2_with (at_builtin;refine Lib.wpList_append_own_stringF _ rfl _ _ 36 9 rfl B 5 G underlying36 underlying9 L C E H _ _ _ rfl j s rfl ?c3 ?c4 ?c5 ?_)
 case c3=>unfold maxLen;omega
 case c4=>omega
 case c5=>have:=n.size;omega
 intro A i t o _;have x:a < c.heap.size:=by
  rcases Nat.lt_or_ge a c.heap.size with l|l
  ·exact l
  ·simp[Array.getElem?_eq_none l]at d
 have f:i.heap[a]? =W (J #[Z (W ⟨a,0,O⟩),v] 38 (0,0)):=by
  rw[o.block a x (λe=>y e.symm)];exact d
 have ad:i.cell? ⟨a,0,O⟩=W (Z (W ⟨a,0,O⟩)):=by rw[Lib.cell_of_heap f];rfl
 have R:i.cell? ⟨a,1,O⟩=W v:=by rw[Lib.cell_of_heap f];rfl
 have P:i.frozen? ⟨a,1,O⟩=false:=Lib.frozen_of_heap f 1;obtain⟨r,q,cap,rfl⟩:∃r q cap,A=Y r q cap:=by
  rcases t.2 with ⟨m,_⟩|⟨g,cap,ac,N,m,_⟩
  ·exact⟨_,_,_,m⟩
  ·exact⟨_,_,_,m⟩
 go_wp2
 go_ret2
 refine⟨rfl,?_,?_,(z.grown o (Lib.ownsRowF_kind j)).setCell ⟨a,1,O⟩ rfl _⟩
 ·exact Lib.BuilderAtF.put (T:=38) (e:=5) u f (bs':=b++Lib.strCells s) (by simpa [Lib.strCells_length]using t) Tryz.Builder_Extra_169.neB5
 ·exact(n.grown o (by have:=n.size;omega) (λk D=>(j.lt k D).1)).setCell (p:=⟨a,1,O⟩) u _
theorem th(B a:Nat)(b:List Value)(f:Int)(H:-2147483648<=f)(M:f<=2147483647)(w:World)(N:Lib.IsBuilderF 38 5 B a b w)(ad:b.length+4<=140737488355328)(L:B<=w.heap.size):
 Calls π 13 #[Z (W ⟨a,0,O⟩),V .i32 f] w λe w'=>(∃n:Int,e=ρ (.tuple #[V I n,.nilIface]))/\(Lib.BuilderAtF 38 5 B a (Z (W ⟨a,0,O⟩)) (b++Lib.runeCells f) w'/\Below B w w'/\Lib.OthersKept 5 (W a) w w'):=by
 go_enter func13,ntmps13
 go_wp2_with (go_at_call 30;refine(ld B a b _ N).mono ?_)
 rintro e j ⟨rfl,F,t,A⟩;obtain⟨x,v,m,l,z⟩:=F;have ac:j.cell? ⟨a,0,O⟩=W (Z (W ⟨a,0,O⟩)):=by rw[Lib.cell_of_heap m];rfl
 have al:j.cell? ⟨a,1,O⟩=W v:=by rw[Lib.cell_of_heap m];rfl
 have P:=utf8_AppendRune_row B v b.length b f H M j l (by omega) (Nat.le_trans L t.size);obtain⟨i,d,cap,rfl⟩:∃i d cap,v=Y i d cap:=by
  rcases l.2 with ⟨c,_⟩|⟨g,cap,G,D,c,_⟩
  ·exact⟨_,_,_,c⟩
  ·exact⟨_,_,_,c⟩
 go_wp2_with (go_at_call 31;refine P.mono ?_)
 rintro e r ⟨C,rfl,u,o,R⟩;have y:a < j.heap.size:=lt_of_heap m;have s:=(World.grownBy_alloc j o _).trans R;have q:r.heap[a]? =W (J #[Z (W ⟨a,0,O⟩),Y i d cap] 38 (0,0)):=by
  rw[s.block a y (λe=>z e.symm)];exact m
 have an:r.cell? ⟨a,0,O⟩=W (Z (W ⟨a,0,O⟩)):=by rw[Lib.cell_of_heap q];rfl
 have ab:r.cell? ⟨a,1,O⟩=W (Y i d cap):=by rw[Lib.cell_of_heap q];rfl
 have X:r.frozen? ⟨a,1,O⟩=false:=Lib.frozen_of_heap q 1;obtain⟨ao,av,S,rfl⟩:∃i d cap,C=Y i d cap:=by
  rcases u.2 with ⟨c,_⟩|⟨g,cap,G,D,c,_⟩
  ·exact⟨_,_,_,c⟩
  ·exact⟨_,_,_,c⟩
 go_wp2
 go_ret2
 refine⟨⟨_,rfl⟩,?_,?_,(A.grown s (Lib.ownsRowF_kind l)).setCell ⟨a,1,O⟩ rfl _⟩
 ·exact Lib.BuilderAtF.put (T:=38) (e:=5) x q (bs':=b++Lib.runeCells f) (by simpa using u) Tryz.Builder_Extra_169.neB5
 ·exact(t.grown s (by have:=t.size;omega) (λk E=>(l.lt k E).1)).setCell (p:=⟨a,1,O⟩) x _
theorem mq{a k:Nat}{w w':World}{b:Array Value}{T:TypeId}{c:Nat × Nat}(f:Lib.OthersKept 5 (W a) w w')(d:w.heap[k]? =W (J b T c))(i:k≠a)(g:T≠5):w'.heap[k]? =W (J b T c):=
 f k _ d (λe=>i (Option.some.inj e)) (λl j e=>g (by cases e;rfl))
theorem cN(B d:Nat)(j:List Value)(b:List Int)(g n:Nat)(z:b.length=n)(av:n<=4)(v:∀c∈b,-2147483648<=c/\c<=2147483647)(w:World)(C:Lib.IsBuilderF 38 5 B d j w)(an:j.length+16<=1000000)(P:B<=w.heap.size)
(r:w.heap[g]? =W (J (b.map (V .i32)).toArray 21 (0,0)))(X:g≠d):
 Calls π 12 #[Y (W ⟨g,0,O⟩) n n,Z (W ⟨d,0,O⟩)] w λe w'=>e=ρ (.tuple #[])/\(Lib.IsBuilderF 38 5 B d (j++b.flatMap Lib.runeCells) w'/\Below B w w'/\Lib.OthersKept 5 (W d) w w'):=by
 obtain⟨y,N,F,G⟩:=zx4 z v r C;clear z v r C
 go_enter func12,ntmps12
 go_wp2_with fail
 go_loopw [4,7] (λ_ a wr=>∃i:Nat,a=V I (i:Int)/\i<=n/\Lib.IsBuilderF 38 5 B d (j++(b.take i).flatMap Lib.runeCells) wr/\Below B w wr/\Lib.OthersKept 5 (W d) w wr) (λ_ a _=>n - (Lib.intOf a).toNat)
 case atStart=>exact⟨0,rfl,z_ _,by simpa using G.out,ζ _ _,Lib.OthersKept.refl _ _ _⟩
 case round=>
  obtain⟨i,rfl,ao,p,o,k⟩:=hrel;by_cases T:i < n
  ·have M:(i:Int) < (n:Int):=by omega
   obtain⟨c,f⟩:=fk b i (by rw[y.out];exact T);have s:=mq k F.out X (by decide);have al:wr.cell? ⟨g,i,O⟩=W (V .i32 c):=by rw[ae s];simp[f]
   have u:=N.out c (zL f);have ac:IntKind.i64.wrap ((i:Int)+1)=(i:Int)+1:=zU _ (by omega);have q:b.take (i+1)=b.take i++[c]:=by rw[zG,f];rfl
   have A:((b.take i).flatMap Lib.runeCells).length<=4 * i:=by
    have:∀l:List Int,(l.flatMap Lib.runeCells).length<=4 * l.length:=by
     intro l;induction l with
     |nil=>simp
     |cons x l ih=>
      have:(Lib.runeCells x).length<=4:=by unfold Lib.runeCells;rw[List.length_map];exact Lib.encodeRuneZ_length_le x
      simp only[List.flatMap_cons,zP,zO];omega
    have ad:=this (b.take i);have:=List.length_take_le i b;omega
   obtain⟨H,t,E,R⟩:=zx4 q o k A;clear f s q o k A
   go_wp2_with fail
   refine(th B d _ c u.1 u.2 wr p (by rw[zP];have:=R.out;omega) (Nat.le_trans P t.out.size)).mono ?_;rintro e a0 ⟨⟨m,rfl⟩,S,ab,D⟩
   go_wp2_with fail
   go_roundw
   case rel=>
    refine⟨i+1,by simp,by omega,?_,t.out.trans ab,E.out.trans D⟩;rw[H.out,List.flatMap_append,<-List.append_assoc,show [c].flatMap Lib.runeCells=Lib.runeCells c by simp];exact Or.inr S
   case measure=>simp[Lib.intOf];omega
  ·have M:¬(i:Int) < (n:Int):=by omega
   have L:i=n:=by omega
   subst L;rw[<-y.out,List.take_length]at p
   go_wp2_with fail
   go_end0
   exact⟨rfl,p,o,k⟩
section
open Go.ChangeMaps (setBlock)
def xW(P:Program)(K:TypeId)(w:World)(c:Nat)(a:List (Value × Value)):Prop:=
 (∃b d,w.heap[c]? =W (.map b d)/\b.toList.map (λe=>(e.key,e.val))=a)/\∀p∈a,∃l,keyOf P K p.1=W l
section
variable {P:Program} {K t e:TypeId} {w:World} {b:Nat} {M:List (Value × Value)}
theorem xW.lt(a:xW P K w b M):b < w.heap.size:=by
 obtain⟨⟨d,e,c,_⟩,_⟩:=a;exact lt_of_heap c
theorem xW.heap{w':World}(a:xW P K w b M)(i:w'.heap[b]? =w.heap[b]?):xW P K w' b M:=by
 obtain⟨⟨e,f,d,c⟩,g⟩:=a;exact⟨⟨e,f,i.trans d,c⟩,g⟩
theorem xW.far{w':World}{D:Nat->Prop}(a:xW P K w b M)(c:Far D w w')(d:¬D b):xW P K w' b M:=a.heap (c.block b a.lt d)
theorem xW.below{w':World}{B:Nat}(c:xW P K w b M)(a:Below B w w')(d:b < B):xW P K w' b M:=c.heap (a.block b d)
theorem aL(w:World):xW P K (w.alloc (.map #[] 0)) w.heap.size []:=⟨⟨#[],0,af w _,rfl⟩,λp a=>by simp at a⟩
theorem xW.look_out(C:xW P K w b M)(g:Maps.Keyed P K)(o:P.underlying t=W (.map K e)){z:Value}(r:(zeroValue e).run P w=.ok z w)(k:Value){l:Lit}(f:keyOf P K k=W l)(n:Bool)(y:∀p∈M,p.1≠k):
 (Instr.lookup t (.map (W b)) k n).run P w=.ok (if n then .tuple #[z,.bool false]else z) w:=by
 obtain⟨⟨m,D,q,d⟩,s⟩:=C;have A:∀x∈m.toList,∃l,keyOf P K x.key=W l:=λx v=>s (x.key,x.val) (by rw[<-d];exact List.mem_map.2 ⟨x,v,rfl⟩);rcases g.find w f m.toList A with ⟨i,c⟩|⟨j,a,i,c,u⟩
 ·simp[Instr.lookup,run_underlying o,MapKept.run_getObj_map q,g.check w _ f,i,r,Result.andThen]
 ·exact absurd u (y (a.key,a.val) (by rw[<-d];exact List.mem_map.2 ⟨a,zL c,rfl⟩))
theorem xW.look_in(E:xW P K w b M)(i:Maps.Keyed P K)(s:P.underlying t=W (.map K e)){z:Value}(H:(zeroValue e).run P w=.ok z w)(k:Value){l:Lit}(g:keyOf P K k=W l)(q:Bool)(v:Value)(o:(k,v)∈M)(y:∀p∈M,p.1=k->p.2=v):
 (Instr.lookup t (.map (W b)) k q).run P w=.ok (if q then .tuple #[v,.bool true]else v) w:=by
 obtain⟨⟨n,G,u,c⟩,C⟩:=E;have D:∀x∈n.toList,∃l,keyOf P K x.key=W l:=λx f=>C (x.key,x.val) (by rw[<-c];exact List.mem_map.2 ⟨x,f,rfl⟩);rcases i.find w g n.toList D with ⟨m,d⟩|⟨j,a,m,d,F⟩
 ·rw[<-c]at o
  obtain⟨x,f,r⟩:=List.mem_map.1 o;exact absurd (congrArg Prod.fst r) (d x f)
 ·have A:a.val=v:=y (a.key,a.val) (by rw[<-c];exact List.mem_map.2 ⟨a,zL d,rfl⟩) F
  simp[Instr.lookup,run_underlying s,MapKept.run_getObj_map u,i.check w _ g,m,Result.andThen,A]
theorem xW.put(E:xW P K w b M)(q:Maps.Keyed P K)(u:P.underlying t=W (.map K e))(k v:Value){l:Lit}(n:keyOf P K k=W l)(C:∀p∈M,p.1≠k):
 ∃w',(Instr.mapUpdate t (.map (W b)) k v).run P w=.ok () w'/\xW P K w' b (M++[(k,v)])/\Far (·=b) w w':=by
 obtain⟨⟨d,c,m,g⟩,s⟩:=E;have D:∀x∈d.toList,∃l,keyOf P K x.key=W l:=λx z=>s (x.key,x.val) (by rw[<-g];exact List.mem_map.2 ⟨x,z,rfl⟩);rcases q.find w n d.toList D with ⟨r,o⟩|⟨j,f,r,o,y⟩
 ·refine⟨setBlock w b (.map (d.push ⟨k,v,c⟩) (c+1)),?_,⟨⟨d.push ⟨k,v,c⟩,c+1,?_,?_⟩,?_⟩,?_⟩
  ·simp[Instr.mapUpdate,run_underlying u,MapKept.run_getObj_map m,q.check w false n,r,MapKept.run_setObj_map _ m,Result.andThen,setBlock]
  ·simp[setBlock,lt_of_heap m]
  ·simp[g]
  ·intro p a
   rcases List.mem_append.1 a with a|a
   ·exact s p a
   ·rw[List.mem_singleton]at a
    subst a;exact⟨l,n⟩
  ·refine⟨rfl,rfl,rfl,by simp[setBlock],λi F A=>?_⟩
   simp only[setBlock];rw[Array.getElem?_setIfInBounds_ne (λe=>A e.symm)]
 ·exact absurd y (C (f.key,f.val) (by rw[<-g];exact List.mem_map.2 ⟨f,zL o,rfl⟩))
end
end
end Go.Proofs.YtbikgdhbiebhcaaGreatDoor
namespace Ln
abbrev B:=List UInt8
def nat(l:B)(i:Nat):Nat:=(l.getD i 0).toNat
theorem kq(l:B)(i:Nat):nat l i < 256:=by unfold nat;exact UInt8.toNat_lt _
def dec(l:B):Nat × Nat:=Go.Lib.decodeN l.length (nat l 0) (nat l 1) (nat l 2) (nat l 3)
theorem aM(a:UInt8)(t:B)(b:a.toNat < 128):dec (a::t)=(a.toNat,1):=by
 unfold dec Go.Lib.decodeN;rw[if_pos (show nat (a::t) 0 < 128 from b)];rfl
theorem dq(l:B):1<=(dec l).2:=by
 unfold dec Go.Lib.decodeN;repeat' split
 all_goals simp
theorem dX(l:B)(a:l≠[]):(dec l).2<=l.length:=by
 have b:1<=l.length:=by cases l with|nil=>exact absurd rfl a|cons _ _=>simp
 unfold dec Go.Lib.decodeN;repeat' split
 all_goals (simp only;omega)
theorem xj(n m b a i j c d e:Nat)(g:¬(1 < n/\a / 64=2))(f:¬(1 < m/\c / 64=2)):Go.Lib.decodeN n b a i j=Go.Lib.decodeN m b c d e:=by
 simp only[Go.Lib.decodeN,g,f,false_and,and_false,if_false]
theorem xi(n m c a d j b e:Nat)(i:(1 < n/\a / 64=2)↔(1 < m/\a / 64=2))(g:¬(2 < n/\d / 64=2))(f:¬(2 < m/\b / 64=2)):Go.Lib.decodeN n c a d j=Go.Lib.decodeN m c a b e:=by
 simp only[Go.Lib.decodeN,g,f,i,false_and,and_false,if_false]
theorem xh(n m d a b e c:Nat)(j:(1 < n/\a / 64=2)↔(1 < m/\a / 64=2))(i:(2 < n/\b / 64=2)↔(2 < m/\b / 64=2))(g:¬(3 < n/\e / 64=2))(f:¬(3 < m/\c / 64=2)):Go.Lib.decodeN n d a b e=Go.Lib.decodeN m d a b c:=by
 simp only[Go.Lib.decodeN,g,f,j,i,false_and,and_false,if_false]
theorem xg(n m b a c d:Nat)(l:4<=n)(o:4<=m):Go.Lib.decodeN n b a c d=Go.Lib.decodeN m b a c d:=by
 have f:1 < n:=by omega
 have k:2 < n:=by omega
 have g:3 < n:=by omega
 have i:1 < m:=by omega
 have e:2 < m:=by omega
 have j:3 < m:=by omega
 simp only[Go.Lib.decodeN,f,k,g,i,e,j]
theorem pv(a:B)(c:UInt8)(t:B)(e:a≠[])(f:c.toNat < 128):dec (a++c::t)=dec a:=by
 have d:¬c.toNat / 64=2:=by omega
 unfold dec
 match a,e with
 | [x],_=>exact xj _ _ _ _ _ _ _ _ _ (λb=>d b.2) (λb=>absurd b.1 (by simp))
 | [x,y],_=>exact xi _ _ _ _ _ _ _ _ (by simp[show nat ([x,y]++c::t) 1=nat [x,y] 1 from rfl]) (λb=>d b.2) (λb=>absurd b.1 (by simp))
 | [x,y,z],_=>exact xh _ _ _ _ _ _ _ (by simp[show nat ([x,y,z]++c::t) 1=nat [x,y,z] 1 from rfl]) (by simp[show nat ([x,y,z]++c::t) 2=nat [x,y,z] 2 from rfl]) (λb=>d b.2) (λb=>absurd b.1 (by simp))
 |x::y::z::u::r,_=>exact xg _ _ _ _ _ _ (by simp) (by simp)
def right(l:B):Bool:=
 if h:l=[]then true else if dec l=(65533,1)then false else right (l.drop (dec l).2)
termination_by l.length
decreasing_by
 have a:=dq l;have b:1<=l.length:=by cases l with|nil=>exact absurd rfl h|cons _ _=>simp
 simp only[zZ];omega
theorem dF:right []=true:=by rw[right];simp
theorem cJ(l:B)(a:l≠[])(b:dec l=(65533,1)):right l=false:=by rw[right];simp[a,b]
theorem bF(l:B)(a:l≠[])(b:dec l≠(65533,1)):right l=right (l.drop (dec l).2):=by rw[right];simp[a,b]
theorem aR(a:UInt8)(t:B)(b:a.toNat < 128):right (a::t)=right t:=by
 rw[bF _ (by simp) (by rw[aM a t b];simp only[ne_eq,Prod.mk.injEq];omega),aM a t b];rfl
theorem eA(b:UInt8)(t:B)(e:b.toNat < 128):∀(n:Nat) (a:B),a.length<=n->right (a++b::t)=(right a&&right t)
 |n,[],_=>by rw[List.nil_append,aR b t e,dF,Bool.true_and]
 |0,x::a,h=>by simp at h
 |n+1,x::a,h=>by
  have d:=pv (x::a) b t (by simp) e;by_cases c:dec (x::a)=(65533,1)
  ·rw[cJ _ (by simp) (d.trans c),cJ _ (by simp) c,Bool.false_and]
  ·rw[bF _ (by simp) (by rw[d];exact c),bF (x::a) (by simp) c,d]
   have g:=dq (x::a);have f:=dX (x::a) (by simp);rw[List.drop_append_of_le_length f];exact eA b t e n _ (by simp only[zZ];simp only[zO]at h ⊢;omega)
theorem fx(a:B)(b:UInt8)(t:B)(c:b.toNat < 128):right (a++b::t)=(right a&&right t):=eA b t c _ a (η _)
theorem aH:∀(l:B),(∀a∈l,a.toNat < 128)->right l=true
 | [],_=>dF
 |c::t,h=>by rw[aR c t (h c (by simp))];exact aH t λa b=>h a (by simp[b])
theorem aS:∀(l a:B),(∀b∈l,b.toNat < 128)->right (l++a)=right a
 | [],a,_=>rfl
 |c::t,a,h=>by rw[List.cons_append,aR c _ (h c (by simp))];exact aS t a λb d=>h b (by simp[d])
end Ln
namespace Ln
def rows:B->List B
 | []=>[]
 |b::t=>if b=10 then []::rows t else match rows t with
  | []=>[[b]]
  |r::rs=>if t.head? =W 10 then [b]::rs else (b::r)::rs
theorem eh(t:B):rows (10::t)=[]::rows t:=by simp[rows]
theorem me:∀(t:B),t≠[]->rows t≠[]
 | [],h=>absurd rfl h
 |b::t,_=>by
  unfold rows;split
  ·simp
  ·split
   ·simp
   ·split<;>simp
theorem jV(b:UInt8)(f:b≠10)(t:B)(e:B)(d:List B)(a:rows t=e::d):rows (b::t)=(b::e)::d:=by
 unfold rows;rw[if_neg f,a];simp only;split
 ·rename_i hh
  cases t with
  |nil=>simp at hh
  |cons c u=>
   simp only[List.head?_cons,Option.some.injEq]at hh;subst hh;rw[eh]at a;simp only[List.cons.injEq]at a;rw[<-a.1]
 ·rfl
theorem ny:∀(a t:B),(∀b∈a,b≠10)->rows (a++10::t)=a::rows t
 | [],t,_=>eh t
 |b::a,t,h=>by
  rw[List.cons_append];exact jV b (h b (by simp)) _ a _ (ny a t λx c=>h x (by simp[c]))
theorem jU:∀(a:B),a≠[]->(∀b∈a,b≠10)->rows a=[a]
 | [],h,_=>absurd rfl h
 | [b],_,h=>by simp[rows,h b (by simp)]
 |b::c::a,_,h=>jV b (h b (by simp)) _ _ _ (jU (c::a) (by simp) λx d=>h x (by simp[d]))
theorem nz:∀(l:B),l≠[]->rows l=(Go.Lib.cut l [10]).1::rows (Go.Lib.cut l [10]).2.1
 | [],h=>absurd rfl h
 | [b],_=>by
  by_cases a:b=10
  ·subst a;rfl
  ·have e:Go.Lib.index [b] [10]=-1:=by simp[Go.Lib.index,List.isPrefixOf,show ¬10=b from λe=>a e.symm]
   simp[Go.Lib.cut,e,rows,a]
 |b::c::l,_=>by
  by_cases a:b=10
  ·subst a
   have e:Go.Lib.index (10::c::l) [10]=0:=by simp[Go.Lib.index,List.isPrefixOf]
   rw[eh];simp[Go.Lib.cut,e]
  ·have g:=nz (c::l) (by simp)
   have e:Go.Lib.index (b::c::l) [10]=if Go.Lib.index (c::l) [10]==-1 then -1 else Go.Lib.index (c::l) [10]+1:=by
    rw[Go.Lib.index];simp[List.isPrefixOf,show ¬10=b from λe=>a e.symm]
   have m:=Go.Lib.index_ge (c::l) [10];rw[jV b a _ _ _ g];unfold Go.Lib.cut;rw[e];by_cases d:Go.Lib.index (c::l) [10]=-1
   ·simp[d]
   ·have j:0<=Go.Lib.index (c::l) [10]:=by omega
    have i:0<=Go.Lib.index (c::l) [10]+1:=by omega
    rw[if_pos j];rw[show (Go.Lib.index (c::l) [10]==-1)=false from by simp[d]];simp only[Bool.false_eq_true,if_false];rw[if_pos i];have k:(Go.Lib.index (c::l) [10]+1).toNat=(Go.Lib.index (c::l) [10]).toNat+1:=by omega
    have f:(Go.Lib.index (c::l) [10]+1).toNat+[(10:UInt8)].length=((Go.Lib.index (c::l) [10]).toNat+[(10:UInt8)].length)+1:=by simp;omega
    simp only[f];rw[k,List.take_succ_cons,List.drop_succ_cons]
theorem um(l:B)(a:l≠[]):(Go.Lib.cut l [10]).2.1.length < l.length:=by
 have b:1<=l.length:=by cases l with|nil=>exact absurd rfl a|cons _ _=>simp
 unfold Go.Lib.cut;split
 ·simp only[zZ,zO,List.length_nil];omega
 ·simp only[List.length_nil];omega
def plainB(b:B):Bool:=b.all λa=>decide (32<=a.toNat)&&decide (a.toNat≠127)
def markB(a:B):Bool:=([45,45,45].isPrefixOf a||[46,46,46].isPrefixOf a)&&(decide (a.length=3)||decide (a[3]? =W 32))
def trouble(a:B):Int:=if plainB a then (if markB a then 81 else 0)else 80
structure Line where
 no:Int
 ind:Int
 s:B
deriving DecidableEq
def lead(a:B):B:=a.dropWhile (·==32)
def tail(a:B):B:=(a.reverse.dropWhile (·==32)).reverse
def says(a:B):Bool:=decide (lead a≠[])&&decide ((lead a).head?≠W 35)
def lineOf(b:Int)(a:B):Line:=⟨b,(a.length:Int) - ((lead a).length:Int),tail (lead a)⟩
def lineL(b:Int)(a:B):List Line:=if says a then [lineOf b a]else []
def bad:Int->List B->Int × Int
 |_,[]=>(0,0)
 |n,r::rs=>if trouble r=0 then bad (n+1) rs else (n,trouble r)
def lns:Int->List B->List Line
 |_,[]=>[]
 |n,r::rs=>lineL n r++lns (n+1) rs
def split(s:B):List Line × Int × Int:=
 if 8000 < s.length then ([],0,20)
 else if right s=false then ([],0,40)
 else if (bad 1 (rows s)).2=0 then (lns 1 (rows s),0,0)else ([],bad 1 (rows s))
theorem ju:∀(n:Int) (b:List B),0 < n->((bad n b).2=0↔∀c∈b,trouble c=0)
 |_,[],_=>by simp[bad]
 |n,c::b,hn=>by
  unfold bad;by_cases a:trouble c=0
  ·rw[if_pos a,ju (n+1) b (by omega)]
   simp[a]
  ·rw[if_neg a]
   simp[a]
theorem iG:∀(n:Int) (a b:List B),(∀c∈a,trouble c=0)->bad n (a++b)=bad (n+a.length) b
 |n,[],b,_=>by simp
 |n,c::a,b,h=>by
  rw[List.cons_append,bad,if_pos (h c (by simp)),iG (n+1) a b λx d=>h x (by simp[d])];congr 1
  simp only[zO];omega
theorem ic:∀(n:Int) (a b:List B),lns n (a++b)=lns n a++lns (n+a.length) b
 |n,[],b=>by simp[lns]
 |n,r::a,b=>by
  rw[List.cons_append,lns,lns,ic (n+1) a b,List.append_assoc];congr 3
  simp only[zO];omega
theorem d9(s:B):(split s).2.2=0↔s.length<=8000/\right s=true/\∀d∈rows s,trouble d=0:=by
 unfold split;by_cases c:8000 < s.length
 ·rw[if_pos c];simp;omega
 ·rw[if_neg c]
  by_cases a:right s=false
  ·rw[if_pos a];simp[a]
  ·rw[if_neg a,<-ju 1 (rows s) (by omega)]
   by_cases b:(bad 1 (rows s)).2=0
   ·rw[if_pos b];simp[b];exact⟨by omega,by simpa using a⟩
   ·rw[if_neg b];simp[b]
theorem nt(s:B)(a:(split s).2.2=0):split s=(lns 1 (rows s),0,0):=by
 obtain⟨d,b,c⟩:=(d9 s).1 a;unfold split;rw[if_neg (by omega),if_neg (by simp[b]),if_pos ((ju 1 _ (by omega)).2 c)]
end Ln
namespace Go.Proofs.YtbikgdhbiebhcaaGreatDoor
open Go.RowKit Tryz
def A9(w:World):Prop:=Lib.TabIs π w "internal/strconv.uint64pow10" .u64 Lib.pow10Tab
theorem named4:prog.globalNamed "internal/strconv.uint64pow10"=W 4:=by kernel_rfl
def Glob(w:World):Prop:=10<=w.heap.size/\Lib.Utf8Tabs 0 1 w/\(∃m:Int,w.cell? ⟨5,0,O⟩=W (V I m))/\(∃(T:TypeId) (v:Value),w.cell? ⟨3,0,O⟩=W (.iface T v))/\A9 w
theorem Glob.keep{w w':World}{B:Nat}(q:Glob w)(c:Below B w w')(s:10<=B):Glob w':=by
 obtain⟨k,d,⟨m,o⟩,⟨T,v,j⟩,l⟩:=q;have b:∀(g i:Nat),g < 10->w'.cell? ⟨g,i,O⟩=w.cell? ⟨g,i,O⟩:=λg i r=>World.cell?_of_block (w:=w) (c.block g (by omega));refine⟨Nat.le_trans k c.size,⟨λe f=>(b 0 e (by omega)).trans (d.1 e f),λi p=>?_⟩,⟨m,(b 5 0 (by omega)).trans o⟩,⟨T,v,(b 3 0 (by omega)).trans j⟩,var?_below c named4 (by omega) l⟩;obtain⟨a,n⟩:=d.2 i p;exact⟨(b 1 _ (by omega)).trans a,(b 1 _ (by omega)).trans n⟩
theorem Glob.step{w w':World}(a:Glob w)(b:Below w.heap.size w w'):Glob w':=a.keep b a.1
theorem aX(s:ByteArray)(i:Nat):Utf8.decode s i=Ln.dec (s.data.toList.drop i):=by
 have e:∀k,(s.get! (i+k)).toNat=Ln.nat (s.data.toList.drop i) k:=by
  intro k;unfold Ln.nat
  rw[zY,List.getElem?_drop,Array.getElem?_toList];show (s.data[i+k]!).toNat=_;rw[Array.getElem!_eq_getD,Array.getD_eq_getD_getElem?];rfl
 have a:=e 0;rw[Nat.add_zero]at a;rw[Lib.decode_at,a,e 1,e 2,e 3];unfold Ln.dec;rw[zZ,Array.length_toList];rfl
theorem eL(s:ByteArray)(a:s.size≠0):Lib.decodeGo s=Ln.dec s.data.toList:=by
 unfold Lib.decodeGo;rw[if_neg a,aX,List.drop_zero]
theorem vm(s:ByteArray)(k:Nat)(a:k < s.size):(s[k]'a).toNat=Ln.nat s.data.toList k:=by
 unfold Ln.nat
 have b:k < s.data.size:=a;rw[zY,zE (by simpa using b)];rfl
theorem vQ(s:ByteArray)(i:Int)(k:Nat)(c:i=(k:Int))(b:k < s.size)(a:World):(Instr.index 9 (U s) (V I i)).run π a=.ok (V .u8 (Ln.nat s.data.toList k:Nat)) a:=by
 subst c;rw[run_index_string (P:=π) a 9 s I (k:Int) underlying9,dif_pos (by omega)];congr 3
 exact vm s k b
theorem uP(a c:ByteArray):(a.toList==c.toList)=decide (a.data.toList=c.data.toList):=by
 rw[ByteArray.toList_eq,ByteArray.toList_eq];by_cases b:a.data.toList=c.data.toList
 ·rw[decide_eq_true b];simpa using b
 ·rw[decide_eq_false b];simpa using b
theorem ap(s:ByteArray):s.data.toList.length=s.size:=by rw[Array.length_toList];rfl
theorem mA:Maps.Keyed π 21:=Maps.int_keyed underlying21
def yX:List (Value × Value):=[(V .i32 10,V .i32 110),(V .i32 9,V .i32 116),(V .i32 13,V .i32 114)]
theorem eP(x:Int)(b:-2147483648<=x)(a:x<=2147483647):keyOf π 21 (.int .i32 x)=W (.int .i32 x):=Maps.keyOf_int_mk underlying21 (by unfold Lit.wf;simp[IntKind.min,IntKind.max,IntKind.bits,IntKind.signed];omega)
theorem qg(w:World):Calls π 14 #[] w λe w'=>e=ρ (.map (W w.heap.size))/\xW π 21 w' w.heap.size yX/\Below w.heap.size w w':=by
 have o:=@run_makeMap π;have b:xW π 21 (w.alloc (.map #[] 0)) w.heap.size []:=aL w;obtain⟨n,q,d,c⟩:=b.put mA underlying46 (.int .i32 10) (.int .i32 110) (eP 10 (by decide) (by decide)) (by simp);obtain⟨s,p,a,f⟩:=d.put mA underlying46 (.int .i32 9) (.int .i32 116) (eP 9 (by decide) (by decide)) (by simp);obtain⟨j,r,l,g⟩:=a.put mA underlying46 (.int .i32 13) (.int .i32 114) (eP 13 (by decide) (by decide)) (by simp);have k:Below w.heap.size w j:=(((ξ (·=w.heap.size) w).alloc _).step (D':=(·=w.heap.size)) (c.trans (f.trans g)) (λi m e=>e)).to_below (η _) (λi m e=>by omega);clear b d a c f g
 go_enter func14,ntmps14
 go_wp2
 go_ret
 exact⟨rfl,l,k⟩
end Go.Proofs.YtbikgdhbiebhcaaGreatDoor
