/-
  The clean machine's memory: a heap of blocks with its laws, and the relation between clean and real values and heaps; nothing of a program is proved here.
-/
import Derived.Tactics
import Derived.Orders
import GoSem.Core.Utf8
import GoSem.Builtin.Append
import GoSem.Dispatch
namespace Go.Cm
open Go
def one:Value→Bool
 | .agg _| .tuple _=>false
 |_=>true
inductive CObj where
 |cells (c:List Value) (elem:TypeId) (opn:Bool) (fz:Nat) (str:Bool)
 |map (es:List (Value×Value×Nat)) (clock:Nat)
 |iter (s:ByteArray) (pos:Nat)
inductive Tr where
 |leaf
 |node (l:Tr) (v:Option (Option CObj)) (r:Tr)
def Tr.get:Tr→Nat→Option (Option CObj)
 | .leaf,_=>none
 | .node l v r,n=>match n with
   |0=>v
   |m+1=>if m%2=0 then l.get (m/2)else r.get (m/2)
def Tr.left:Tr→Tr
 | .leaf=>.leaf
 | .node l _ _=>l
def Tr.right:Tr→Tr
 | .leaf=>.leaf
 | .node _ _ r=>r
def Tr.val:Tr→Option (Option CObj)
 | .leaf=>none
 | .node _ v _=>v
def Tr.setA:Nat→Tr→Nat→Option CObj→Tr
 |0,t,_,_=>t
 |f+1,t,n,x=>match n with
  |0=>.node t.left (some x) t.right
  |m+1=>if m%2=0 then .node (Tr.setA f t.left (m/2) x) t.val t.right else .node t.left t.val (Tr.setA f t.right (m/2) x)
theorem Tr.get_leaf(n:Nat):Tr.get .leaf n=none:=by cases n<;>rfl
theorem Tr.get_zero(t:Tr):t.get 0=t.val:=by cases t<;>rfl
theorem Tr.get_succ(t:Tr)(m:Nat):t.get (m+1)=if m%2=0 then t.left.get (m/2)else t.right.get (m/2):=by
 cases t with
 |leaf=>simp[Tr.left,Tr.right,Tr.get_leaf]
 |node l v r=>simp[Tr.get,Tr.left,Tr.right]
theorem Tr.get_setA(x:Option CObj):∀(f:Nat) (t:Tr) (n k:Nat),n<f→(Tr.setA f t n x).get k=if k=n then some x else t.get k:=by
 intro f;induction f with
 |zero=>intro t n k h;omega
 |succ f ih=>
  intro t n k h;cases n with
  |zero=>
   simp only[Tr.setA];cases k with
   |zero=>simp[Tr.get_zero,Tr.val]
   |succ k=>rw[Tr.get_succ,Tr.get_succ];simp[Tr.left,Tr.right]
  |succ m=>
   simp only[Tr.setA];by_cases hm:m%2=0
   ·rw[if_pos hm];cases k with
    |zero=>simp[Tr.get_zero,Tr.val]
    |succ k=>
     rw[Tr.get_succ,Tr.get_succ];simp only[Tr.left,Tr.right];by_cases hk:k%2=0
     ·rw[if_pos hk,if_pos hk,ih _ _ _ (by omega)];have:(k/2=m/2)↔(k+1=m+1):=by omega
      simp only[this]
     ·rw[if_neg hk,if_neg hk];have:¬(k+1=m+1):=by omega
      rw[if_neg this]
   ·rw[if_neg hm];cases k with
    |zero=>simp[Tr.get_zero,Tr.val]
    |succ k=>
     rw[Tr.get_succ,Tr.get_succ];simp only[Tr.left,Tr.right];by_cases hk:k%2=0
     ·rw[if_pos hk,if_pos hk];have:¬(k+1=m+1):=by omega
      rw[if_neg this]
     ·rw[if_neg hk,if_neg hk,ih _ _ _ (by omega)];have:(k/2=m/2)↔(k+1=m+1):=by omega
      simp only[this]
structure Heap where
 tr:Tr
 next:Nat
 base:Nat→Option CObj
namespace Heap
def get(H:Heap)(b:Nat):Option CObj:=match H.tr.get b with
 |some x=>x
 |none=>H.base b
def setO(H:Heap)(b:Nat)(x:Option CObj):Heap:={H with tr:=Tr.setA (b+1) H.tr b x}
def put(H:Heap)(b:Nat)(o:CObj):Heap:=H.setO b (some o)
def kill(H:Heap)(b:Nat):Heap:=H.setO b none
def new(H:Heap)(o:CObj):Heap:={H with tr:=Tr.setA (H.next+1) H.tr H.next (some o),next:=H.next+1}
variable(H:Heap)(b k:Nat)(o:CObj)(x:Option CObj)
theorem get_setO:(H.setO b x).get k=if k=b then x else H.get k:=by unfold get setO;simp only[Tr.get_setA x (b+1) H.tr b k (by omega)];by_cases h:k=b<;>simp[h]
theorem get_put:(H.put b o).get k=if k=b then some o else H.get k:=get_setO _ _ _ _
theorem get_kill:(H.kill b).get k=if k=b then none else H.get k:=get_setO _ _ _ _
theorem get_new:(H.new o).get k=if k=H.next then some o else H.get k:=by unfold get new;simp only[Tr.get_setA (some o) (H.next+1) H.tr H.next k (by omega)];by_cases h:k=H.next<;>simp[h]
@[simp] theorem get_put_same:(H.put b o).get b=some o:=by rw[get_put,if_pos rfl]
theorem get_put_ne{b k:Nat}(h:k≠b):(H.put b o).get k=H.get k:=by rw[get_put,if_neg h]
@[simp] theorem get_new_same:(H.new o).get H.next=some o:=by rw[get_new,if_pos rfl]
theorem get_new_ne{k:Nat}(h:k≠H.next):(H.new o).get k=H.get k:=by rw[get_new,if_neg h]
@[simp] theorem get_kill_same:(H.kill b).get b=none:=by rw[get_kill,if_pos rfl]
theorem get_kill_ne{b k:Nat}(h:k≠b):(H.kill b).get k=H.get k:=by rw[get_kill,if_neg h]
@[simp] theorem next_put:(H.put b o).next=H.next:=rfl
@[simp] theorem next_kill:(H.kill b).next=H.next:=rfl
@[simp] theorem next_new:(H.new o).next=H.next+1:=rfl
end Heap
structure MB where
 blk:Nat
 sh:Nat
 n:Nat
 rs:Nat
 esz:Nat
 opn:Bool
abbrev Mu:=Nat→Option MB
def AR(μ:Mu)(a a':Addr):Prop:=a.spot=none∧a'.spot=none∧∃m,μ a.block=some m∧a'.block=m.blk∧a'.off=a.off+m.sh
def SR0(μ:Mu)(a a':Addr)(len cc rc:Nat):Prop:=a.spot=none∧a'.spot=none∧∃m,μ a.block=some m∧a'.block=m.blk∧((a'.off=a.off+m.sh∧rc=cc)∨
                                                                                                           (m.opn=true∧a'.off=a.off+m.sh∧cc≤rc∧a.off+cc*m.esz=m.n∧a'.off+rc*m.esz≤m.rs)∨
                                                                                                           (len=0∧cc=0∧(rc=0∨(m.opn=true∧m.n+m.sh≤a'.off∧a'.off+rc*m.esz≤m.rs))))
def dang:Addr:=⟨0,0,some 0⟩
def SR(μ:Mu)(a a':Addr)(len cc rc:Nat):Prop:=SR0 μ a a' len cc rc∨(a=dang∧len=0∧cc=0∧rc=0)
inductive VR (μ:Mu):Value→Value→Prop where
 |bool (b:Bool):VR μ (.bool b) (.bool b)
 |int (k:IntKind) (n:Int):VR μ (.int k n) (.int k n)
 |string (s:ByteArray):VR μ (.string s) (.string s)
 |ptrN:VR μ (.pointer none) (.pointer none)
 |ptr {a a':Addr} (h:AR μ a a'):VR μ (.pointer (some a)) (.pointer (some a'))
 |slN:VR μ (.slice none 0 0) (.slice none 0 0)
 |sl {a a':Addr} {n c c':Nat} (hl:n≤c) (h:SR μ a a' n c c'):VR μ (.slice (some a) n c) (.slice (some a') n c')
 |mapN:VR μ (.map none) (.map none)
 |map {r:Nat} {m:MB} (h:μ r=some m) (hs:m.sh=0):VR μ (.map (some r)) (.map (some m.blk))
 |func (fn:Fn) {f f' c c':Array Value} (hf:f.size=f'.size) (hf':∀(i:Nat) (h:i<f.size) (h':i<f'.size),VR μ f[i] f'[i]) (hc:c.size=c'.size) (hc':∀(i:Nat) (h:i<c.size) (h':i<c'.size),VR μ c[i] c'[i]):VR μ (.func fn f c) (.func fn f' c')
 |nilFunc:VR μ .nilFunc .nilFunc
 |iface (t:TypeId) {v v':Value} (h:VR μ v v'):VR μ (.iface t v) (.iface t v')
 |nilIface:VR μ .nilIface .nilIface
 |agg {c c':Array Value} (hs:c.size=c'.size) (h:∀(i:Nat) (h:i<c.size) (h':i<c'.size),VR μ c[i] c'[i]) (ho:∀(i:Nat) (h:i<c.size),one c[i]=true):VR μ (.agg c) (.agg c')
 |tuple {c c':Array Value} (hs:c.size=c'.size) (h:∀(i:Nat) (h:i<c.size) (h':i<c'.size),VR μ c[i] c'[i]):VR μ (.tuple c) (.tuple c')
theorem VR.one_eq{μ:Mu}{v v':Value}(h:VR μ v v'):one v'=one v:=by cases h<;>rfl
def Mu.le(μ μ':Mu):Prop:=∀b m,μ b=some m→μ' b=some m
theorem Mu.le_refl(μ:Mu):μ.le μ:=fun _ _ h=>h
theorem Mu.le_trans{μ μ' μ'':Mu}(h:μ.le μ')(h':μ'.le μ''):μ.le μ'':=fun b m e=>h' b m (h b m e)
theorem AR.mono{μ μ':Mu}(hm:μ.le μ'){a a':Addr}(h:AR μ a a'):AR μ' a a':=by obtain⟨h1,h2,m,h3,h4⟩:=h;exact⟨h1,h2,m,hm _ _ h3,h4⟩
theorem SR.mono{μ μ':Mu}(hm:μ.le μ'){a a':Addr}{n c c':Nat}(h:SR μ a a' n c c'):SR μ' a a' n c c':=by
 rcases h with ⟨h1,h2,m,h3,h4⟩|h
 ·exact .inl ⟨h1,h2,m,hm _ _ h3,h4⟩
 ·exact .inr h
theorem VR.mono{μ μ':Mu}(hm:μ.le μ'){v v':Value}(h:VR μ v v'):VR μ' v v':=by
 induction h with
 |bool b=>exact .bool b
 |int k n=>exact .int k n
 |string s=>exact .string s
 |ptrN=>exact .ptrN
 |ptr h=>exact .ptr (h.mono hm)
 |slN=>exact .slN
 |sl hl h=>exact .sl hl (h.mono hm)
 |mapN=>exact .mapN
 |map h hs=>exact .map (hm _ _ h) hs
 |func fn hf _ hc _ ih1 ih2=>exact .func fn hf ih1 hc ih2
 |nilFunc=>exact .nilFunc
 |iface t _ ih=>exact .iface t ih
 |nilIface=>exact .nilIface
 |agg hs _ ho ih=>exact .agg hs ih ho
 |tuple hs _ ih=>exact .tuple hs ih
def OR(P:Program)(μ:Mu)(m:MB):CObj→Obj→Prop
 | .cells c elem opn fz str,.cells c' elem' fr=>
    elem=elem'∧(c.length=m.n∧fz≤c.length)∧opn=m.opn∧m.esz=P.cellsOf elem∧c'.size=m.rs∧m.n+m.sh≤m.rs∧(m.opn=false→str=false→m.sh=0∧m.rs=m.n)∧
    (∀i v,c[i]?=some v→one v=true∧∃v',c'[i+m.sh]?=some v'∧VR μ v v')∧
    (∀j,j<m.rs→m.sh+fz≤j→(m.opn=false→j<m.sh+m.n)→¬(fr.1≤j∧j<fr.2))∧(str=false→fr.1≤fr.2∧fr.2≤m.sh+fz)
 | .map es clock,.map es' clock'=>m.sh=0∧clock=clock'∧es.length=es'.size∧∀(i:Nat) (e:Value×Value×Nat),es[i]?=some e→∃e':MapEntry,es'[i]?=some e'∧VR μ e.1 e'.key∧VR μ e.2.1 e'.val∧e.2.2=e'.born
 | .iter s pos,.stringIter s' pos'=>m.sh=0∧s=s'∧pos=pos'
 |_,_=>False
theorem OR.mono{P:Program}{μ μ':Mu}(hm:μ.le μ'){m:MB}{o:CObj}{o':Obj}(h:OR P μ m o o'):OR P μ' m o o':=by
 cases o<;>cases o'<;>simp only[OR]at h⊢
 ·obtain⟨h1,h2,h3,h4,h5,h6,h7,h8,h9,h10⟩:=h;exact⟨h1,h2,h3,h4,h5,h6,h7,fun i v hv=>let ⟨a,v',b,c⟩:=h8 i v hv;⟨a,v',b,c.mono hm⟩,h9,h10⟩
 ·obtain⟨h1,h2,h3,h4⟩:=h;exact⟨h1,h2,h3,fun i e he=>let ⟨e',a,b,c,d⟩:=h4 i e he;⟨e',a,b.mono hm,c.mono hm,d⟩⟩
 ·exact h
structure Start where
 heap:Array Obj
 os:Os
 output:Array (Nat×ByteArray)
 n0:Nat
 ng:Nat
structure RR(P:Program)(w0:Start)(μ:Mu)(H:Heap)(w:World):Prop where
 obj:∀b m o,μ b=some m→H.get b=some o→∃o',w.heap[m.blk]?=some o'∧OR P μ m o o'
 inj:∀b1 b2 m1 m2 o1 o2,w0.n0≤b1→w0.n0≤b2→μ b1=some m1→μ b2=some m2→H.get b1=some o1→H.get b2=some o2→m1.blk=m2.blk→b1=b2
 fresh:∀b,H.next≤b→μ b=none
 blk:∀b m,μ b=some m→m.blk<w.heap.size
 size:w0.heap.size≤w.heap.size
 nle:w0.ng≤w0.n0
 idn:∀b,b<w0.ng→∃m,μ b=some m∧m.blk=b∧m.sh=0
 low:∀b m,μ b=some m→(b<w0.n0∧m.blk<w0.heap.size)∨(w0.n0≤b∧w0.heap.size≤m.blk)
 lown:w0.n0≤H.next
 base:∀b,b<w0.heap.size→w.heap[b]?=w0.heap[b]?
 still:∀b o,b<w0.n0→H.get b=some o→∃c e,o=.cells c e false c.length true
 top:∀b,H.next≤b→H.get b=none
 io:w.os=w0.os∧w.output=w0.output
theorem RR.high{P:Program}{w0:Start}{μ:Mu}{H:Heap}{w:World}(R:RR P w0 μ H w){b:Nat}{m:MB}(h:μ b=some m):w0.n0≤b↔w0.heap.size≤m.blk:=by rcases R.low b m h with h|h<;>omega
theorem RR.inj'{P:Program}{w0:Start}{μ:Mu}{H:Heap}{w:World}(R:RR P w0 μ H w){b1 b2:Nat}{m1 m2:MB}{o1 o2:CObj}(h1:μ b1=some m1)(h2:μ b2=some m2)(h3:H.get b1=some o1)(h4:H.get b2=some o2)(h5:m1.blk=m2.blk)(hl:w0.heap.size≤m2.blk):b1=b2:=R.inj _ _ _ _ _ _ ((R.high h1).2 (by omega)) ((R.high h2).2 hl) h1 h2 h3 h4 h5
theorem RR.own{P:Program}{w0:Start}{μ:Mu}{H:Heap}{w:World}(R:RR P w0 μ H w){b:Nat}{m:MB}{o:CObj}(h:μ b=some m)(hg:H.get b=some o)(hn:∀c e,o≠ .cells c e false c.length true):w0.heap.size≤m.blk:=by
 rcases R.low b m h with ⟨hb,_⟩|⟨_,h⟩
 ·obtain⟨c,e,rfl⟩:=R.still b o hb hg;exact absurd rfl (hn c e)
 ·exact h
structure Ext(μ:Mu)(H:Heap)(μ':Mu)(H':Heap):Prop where
 le:μ.le μ'
 keep:∀b,b<H.next→μ b=none→μ' b=none∧H'.get b=H.get b
 next:H.next≤H'.next
theorem Ext.refl(μ:Mu)(H:Heap):Ext μ H μ H:=⟨Mu.le_refl μ,fun _ _ h=>⟨h,rfl⟩,Nat.le_refl _⟩
theorem Ext.trans{μ μ' μ'':Mu}{H H' H'':Heap}(h:Ext μ H μ' H')(h':Ext μ' H' μ'' H''):Ext μ H μ'' H'':=⟨Mu.le_trans h.le h'.le,fun b hb hm=>by obtain⟨h1,h2⟩:=h.keep b hb hm;obtain⟨h3,h4⟩:=h'.keep b (Nat.lt_of_lt_of_le hb h.next) h1;exact⟨h3,h4.trans h2⟩,Nat.le_trans h.next h'.next⟩
abbrev Res:=Option (Value×Heap)
def S(l:List UInt8):ByteArray:=⟨⟨l⟩⟩
def lst(s:ByteArray):List UInt8:=s.data.toList
@[simp] theorem lst_S(l:List UInt8):lst (S l)=l:=rfl
@[simp] theorem S_lst(s:ByteArray):S (lst s)=s:=rfl
def slen(s:ByteArray):Nat:=(lst s).length
@[simp] theorem slen_S(l:List UInt8):slen (S l)=l.length:=rfl
def sCat(x y:ByteArray):ByteArray:=S (lst x++lst y)
@[simp] theorem sCat_S(a b:List UInt8):sCat (S a) (S b)=S (a++b):=rfl
def sSub(x:ByteArray)(l h:Nat):ByteArray:=S (((lst x).take h).drop l)
@[simp] theorem sSub_S(a:List UInt8)(l h:Nat):sSub (S a) l h=S ((a.take h).drop l):=rfl
def bt(s:ByteArray)(i:Nat):Int:=((lst s).getD i 0).toNat
def sEq(x y:ByteArray):Bool:=lst x==lst y
inductive Kd0 where
 |any|int (k:IntKind)|bool|str|ptr|sl|map|agg
inductive Kd where
 |one (k:Kd0)
 |tup (ks:List Kd0)
def asI(k:IntKind){α:Type}(v:Value)(K:Int→Option α):Option α:=match v with
 | .int k' n=>if k'=k then K n else none
 |_=>none
def asB{α:Type}(v:Value)(K:Bool→Option α):Option α:=match v with
 | .bool b=>K b
 |_=>none
def asS{α:Type}(v:Value)(K:ByteArray→Option α):Option α:=match v with
 | .string s=>K s
 |_=>none
def asP{α:Type}(v:Value)(K:Option Addr→Option α):Option α:=match v with
 | .pointer a=>K a
 |_=>none
def asSl{α:Type}(v:Value)(K:Option Addr→Nat→Nat→Option α):Option α:=match v with
 | .slice a n c=>K a n c
 |_=>none
def asM{α:Type}(v:Value)(K:Option Nat→Option α):Option α:=match v with
 | .map r=>K r
 |_=>none
def asA{α:Type}(v:Value)(K:Array Value→Option α):Option α:=match v with
 | .agg cs=>K cs
 |_=>none
def asN{α:Type}(v:Value)(K:Int→Option α):Option α:=match v with
 | .int _ n=>K n
 |_=>none
def cast0(d:Kd0)(v:Value)(K:Value→Res):Res:=match d with
 | .any=>K v
 | .int k=>asI k v fun n=>K (.int k n)
 | .bool=>asB v fun b=>K (.bool b)
 | .str=>asS v fun s=>K (.string s)
 | .ptr=>asP v fun a=>K (.pointer a)
 | .sl=>asSl v fun a n c=>K (.slice a n c)
 | .map=>asM v fun r=>K (.map r)
 | .agg=>asA v fun cs=>K (.agg cs)
def castL:List Kd0→List Value→(List Value→Res)→Res
 |[],[],K=>K []
 |d::ds,v::vs,K=>cast0 d v fun x=>castL ds vs fun l=>K (x::l)
 |_,_,_=>none
def cast(d:Kd)(v:Value)(K:Value→Res):Res:=match d with
 | .one d=>cast0 d v K
 | .tup ds=>match v with
   | .tuple vs=>castL ds vs.toList fun l=>K (.tuple ⟨l⟩)
   |_=>none
def optK{α β:Type}(o:Option α)(K:α→Option β):Option β:=match o with
 |some x=>K x
 |none=>none
def callK(r:Res)(K:Value→Heap→Res):Res:=match r with
 |some (v,H)=>K v H
 |none=>none
def chk{α:Type}(b:Bool)(r:Option α):Option α:=match b with
 |true=>r
 |false=>none
abbrev Fr:=List (Nat×Value)
def Fr.get:Fr→Nat→Option Value
 |[],_=>none
 |(u,v)::fr,t=>if t=u then some v else Fr.get fr t
def Fr.del:Fr→Nat→Fr
 |[],_=>[]
 |(u,v)::fr,t=>if t=u then Fr.del fr t else(u,v)::Fr.del fr t
def Fr.setO(fr:Fr)(d:Option Nat)(v:Value):Fr:=match d with
 |some t=>(t,v)::fr
 |none=>fr
def Fr.delO(fr:Fr)(d:Option Nat):Fr:=match d with
 |some t=>(t,undef)::fr
 |none=>fr
def liveK:List (Nat×Kd0)→Fr→(Fr→Res)→Res
 |[],_,K=>K []
 |(t,d)::l,fr,K=>optK (fr.get t) fun v=>cast0 d v fun x=>liveK l fr fun r=>K ((t,x)::r)
inductive COpd where
 |tmp (t:Nat)
 |const (v:Value)
 |glob (g:Nat)
 |fn (f:Nat)
def ev(fr:Fr):COpd→Option Value
 | .tmp t=>fr.get t
 | .const v=>some v
 | .glob g=>some (.pointer (some ⟨g,0,none⟩))
 | .fn f=>some (.func (.func f) #[] #[])
def evs(fr:Fr):List COpd→Option (List Value)
 |[]=>some []
 |x::xs=>match ev fr x with
  |some v=>match evs fr xs with
   |some vs=>some (v::vs)
   |none=>none
  |none=>none
inductive NK where
 |p|s|m|f|i
inductive PI where
 |mov
 |movS
 |arith (op:BinOp) (k:IntKind)
 |cmp (op:BinOp) (k:IntKind)
 |bits (op:BinOp) (k:IntKind)
 |div (op:BinOp) (k:IntKind)
 |shift (op:BinOp) (k:IntKind)
 |sadd
 |scmp (op:BinOp)
 |eqB (neg:Bool)
 |eqN (neg:Bool) (k:NK)
 |eqA (neg:Bool) (ks:List Kd0)
 |notB
 |negI (k:IntKind)
 |xorI (k:IntKind)
 |convI (k:IntKind)
 |convIS
 |idxS
 |idxA (n size:Nat) (agg:Bool)
 |field (off size:Nat) (agg:Bool)
 |extract (i:Nat)
 |build (zero:List Value) (parts:List (Nat×Nat))
 |subS (lo hi:Bool)
 |subAp (n size:Nat) (lo hi mx:Bool)
 |fieldAddr (off:Nat)
 |idxAddrSl (size:Nat)
 |idxAddrAp (n size:Nat)
 |nilCk
 |lenS
 |lenSl
 |lenArr (n:Nat)
 |mm (mx:Bool) (k:IntKind)
 |mkFunc (fn:Fn) (nfirst:Nat)
 |mkIface (t:TypeId)
inductive RI where
 |load (n:Nat) (agg:Bool)
 |bytesStr
 |runesStr
 |eqP (neg:Bool)
 |subSl (elem:TypeId) (size:Nat) (lo hi mx:Bool)
 |lookup (kd:Kd0) (zero:Value) (ok:Bool)
 |lenMap
 |toUns
 |fromUns (elem:TypeId) (size:Nat)
inductive ME where
 |mk
 |upd (kd:Kd0)
 |del (kd:Kd0)
inductive EI where
 |alloc (elem:TypeId) (zero:List Value)
 |box (elem:TypeId)
 |buildSl (elem:TypeId) (len:Nat) (zs:List Value) (parts:List (Nat×Nat))
 |mkSl (elem:TypeId) (size bytes:Nat) (zero:List Value)
 |store (n:Nat)
 |append (elem:TypeId) (size bytes:Nat) (str:Bool)
 |copy (size:Nat) (str:Bool)
 |clearSl (size:Nat) (zero:List Value)
 |rangeS
 |nextS
 |strBytes (elem:TypeId)
 |strRunes (elem:TypeId)
 |slData
 |unsStr (elem:TypeId)
 |markStr
 |mapE (e:ME)
inductive CIns where
 |bad
 |pure (p:PI)
 |pick
 |read (r:RI)
 |eff (e:EI)
 |call (f:Nat)
 |callv
structure COp where
 dst:Option Nat
 kd:Kd
 guard:Option (Nat×Bool)
 ins:CIns
 args:List COpd
inductive CCode where
 |skip
 |seq (a b:CCode)
 |reg (ops:List COp)
 |regD (allocs:List COp) (ops:List (COp×Nat×Nat))
 |cond (c:COpd) (a b:CCode)
 |block (id:Nat) (c:CCode)
 |loop (c:CCode)
 |exit (id:Nat)
 |ret
 |bad
 |cut (live:List (Nat×Kd0)) (c:CCode)
 |loopC (live:List (Nat×Kd0)) (c:CCode)
inductive CRes where
 |tmp (t:Nat)
 |cell (t n:Nat) (agg:Bool)
structure CFunc where
 body:CCode
 results:List CRes
def cellsL:Value→List Value
 | .agg cs=>cs.toList
 |v=>[v]
def ap(a:Addr)(n:Nat):Addr:=⟨a.block,a.off+n,none⟩
def cmpI(op:BinOp)(a b:Int)(K:Bool→Res):Res:=match op with
 | .eql=>K (decide (a=b))
 | .neq=>K (!decide (a=b))
 | .lss=>K (decide (a<b))
 | .leq=>K (decide (a≤b))
 | .gtr=>K (decide (b<a))
 | .geq=>K (decide (b≤a))
 |_=>none
def bitsI(op:BinOp)(k:IntKind)(x y:Int):Int:=let a:=BitVec.ofInt k.bits x
 let b:=BitVec.ofInt k.bits y
 match op with
 | .and=>k.wrap (a&&&b).toNat
 | .or=>k.wrap (a|||b).toNat
 | .xor=>k.wrap (a^^^b).toNat
 | .andNot=>k.wrap (a&&& ~~~b).toNat
 |_=>0
def isBits:BinOp→Bool
 | .and| .or| .xor| .andNot=>true
 |_=>false
def sLess:List UInt8→List UInt8→Bool
 |_,[]=>false
 |[],_::_=>true
 |a::x,b::y=>decide (a.toNat<b.toNat)||(a.toNat==b.toNat&&sLess x y)
def scmpB(op:BinOp)(x y:ByteArray)(K:Bool→Res):Res:=match op with
 | .eql=>K (sEq x y)
 | .neq=>K (!sEq x y)
 | .lss=>K (sLess (lst x) (lst y))
 | .leq=>K (sLess (lst x) (lst y)||sEq x y)
 | .gtr=>K (!(sLess (lst x) (lst y)||sEq x y))
 | .geq=>K (!sLess (lst x) (lst y))
 |_=>none
def eqC:Kd0→Value→Value→Option Bool
 | .int k,.int k1 a,.int k2 b=>if k1=k∧k2=k then some (decide (a=b))else none
 | .str,.string a,.string b=>some (sEq a b)
 | .bool,.bool a,.bool b=>some (a==b)
 |_,_,_=>none
def eqL:List Kd0→List Value→List Value→Option Bool
 |[],[],[]=>some true
 |k::ks,a::as,b::bs=>match eqC k a b with
  |some true=>eqL ks as bs
  |some false=>some false
  |none=>none
 |_,_,_=>none
def partL(cs:List Value)(off size:Nat)(agg:Bool):Option Value:=if agg then(if off+size≤cs.length then some (.agg ((cs.drop off).take size).toArray)else none)else cs[off]?
def splice(c:List Value)(off:Nat)(vs:List Value):List Value:=c.take off++vs++c.drop (off+vs.length)
def fillL:List (Nat×Nat)→List Value→List Value→Option (List Value)
 |[],[],cs=>some cs
 |(off,size)::ps,v::vs,cs=>
  if(cellsL v).length=size∧off+size≤cs.length∧(cellsL v).all one=true then fillL ps vs (splice cs off (cellsL v))else none
 |_,_,_=>none
def bnds(len cap:Nat)(lo hi mx:Bool){α:Type}(vs:List Value)(K:Nat→Nat→Nat→Option α):Option α:=match lo,hi,mx,vs with
 |false,false,false,[]=>K 0 len cap
 |true,false,false,[l]=>asN l fun l=>if 0≤l∧l≤len then K l.toNat len cap else none
 |false,true,false,[h]=>asN h fun h=>if 0≤h∧h≤cap then K 0 h.toNat cap else none
 |true,true,false,[l,h]=>asN l fun l=>asN h fun h=>if 0≤l∧l≤h∧h≤cap then K l.toNat h.toNat cap else none
 |false,true,true,[h,m]=>asN h fun h=>asN m fun m=>if 0≤h∧h≤m∧m≤cap then K 0 h.toNat m.toNat else none
 |true,true,true,[l,h,m]=>asN l fun l=>asN h fun h=>asN m fun m=>if 0≤l∧l≤h∧h≤m∧m≤cap then K l.toNat h.toNat m.toNat else none
 |_,_,_,_=>none
def isNil:NK→Value→Option Bool
 | .p,.pointer a=>some a.isNone
 | .s,.slice a _ _=>some a.isNone
 | .m,.map r=>some r.isNone
 | .f,.func _ _ _=>some false
 | .f,.nilFunc=>some true
 | .i,.iface _ _=>some false
 | .i,.nilIface=>some true
 |_,_=>none
def mmL(mx:Bool)(k:IntKind):List Value→Int→(Int→Res)→Res
 |[],a,K=>K a
 |v::vs,a,K=>asI k v fun b=>mmL mx k vs (if mx then(if a<b then b else a)else(if b<a then b else a)) K
def pureK(p:PI)(vs:List Value)(K:Value→Res):Res:=match p,vs with
 | .mov,[v]=>K v
 | .movS,[v]=>asS v fun s=>K (.string s)
 | .arith op k,[x,y]=>asI k x fun a=>asI k y fun b=>match op with
   | .add=>K (.int k (k.wrap (a+b)))
   | .sub=>K (.int k (k.wrap (a-b)))
   | .mul=>K (.int k (k.wrap (a*b)))
   |_=>none
 | .cmp op k,[x,y]=>asI k x fun a=>asI k y fun b=>cmpI op a b fun r=>K (.bool r)
 | .bits op k,[x,y]=>asI k x fun a=>asI k y fun b=>chk (isBits op) (K (.int k (bitsI op k a b)))
 | .div op k,[x,y]=>asI k x fun a=>asI k y fun b=>if b=0 then none else match op with
   | .quo=>K (.int k (k.wrap (a.tdiv b)))
   | .rem=>K (.int k (a.tmod b))
   |_=>none
 | .shift op k,[x,y]=>asI k x fun a=>asN y fun b=>if b<0 then none else match op with
   | .shl=>K (.int k (k.wrap (a*2^(min b.toNat k.bits))))
   | .shr=>K (.int k (a.fdiv (2^(min b.toNat k.bits))))
   |_=>none
 | .sadd,[x,y]=>asS x fun a=>asS y fun b=>if slen a+slen b≤9223372036854775807 then K (.string (sCat a b))else none
 | .scmp op,[x,y]=>asS x fun a=>asS y fun b=>scmpB op a b fun r=>K (.bool r)
 | .eqB neg,[x,y]=>asB x fun a=>asB y fun b=>K (.bool (if neg then !(a==b)else a==b))
 | .eqN neg k,[x]=>optK (isNil k x) fun b=>K (.bool (if neg then !b else b))
 | .eqA neg ks,[x,y]=>asA x fun a=>asA y fun b=>chk (a.size==ks.length&&b.size==ks.length) (optK (eqL ks a.toList b.toList) fun r=>K (.bool (if neg then !r else r)))
 | .notB,[x]=>asB x fun a=>K (.bool (!a))
 | .negI k,[x]=>asI k x fun a=>K (.int k (k.wrap (0-a)))
 | .xorI k,[x]=>asI k x fun a=>K (.int k (bitsI .xor k (if k.signed then-1 else k.max) a))
 | .convI k,[x]=>asN x fun a=>K (.int k (k.wrap a))
 | .convIS,[x]=>asN x fun a=>K (.string (Utf8.encode a))
 | .idxS,[x,i]=>asS x fun s=>asN i fun n=>if 0≤n∧n<slen s then K (.int .u8 (bt s n.toNat))else none
 | .idxA n size agg,[x,i]=>asA x fun cs=>asN i fun j=>if 0≤j∧j<n then optK (partL cs.toList (j.toNat*size) size agg) K else none
 | .field off size agg,[x]=>asA x fun cs=>optK (partL cs.toList off size agg) K
 | .extract i,[x]=>match x with
   | .tuple l=>optK l.toList[i]? K
   |_=>none
 | .build zero parts,vs=>optK (fillL parts vs zero) fun cs=>K (.agg cs.toArray)
 | .subS lo hi,x::vs=>asS x fun s=>bnds (slen s) (slen s) lo hi false vs fun l h _=>K (.string (sSub s l h))
 | .subAp n size lo hi mx,x::vs=>asP x fun a=>match a with
   |some a=>bnds n n lo hi mx vs fun l h m=>K (.slice (some (ap a (l*size))) (h-l) (m-l))
   |none=>none
 | .fieldAddr off,[x]=>asP x fun a=>match a with
   |some a=>K (.pointer (some (ap a off)))
   |none=>none
 | .idxAddrSl size,[x,i]=>asSl x fun a n _=>asN i fun j=>match a with
   |some a=>if 0≤j∧j<n then K (.pointer (some (ap a (j.toNat*size))))else none
   |none=>none
 | .idxAddrAp n size,[x,i]=>asP x fun a=>asN i fun j=>match a with
   |some a=>if 0≤j∧j<n then K (.pointer (some (ap a (j.toNat*size))))else none
   |none=>none
 | .nilCk,[x]=>match x with
   | .pointer (some a)=>K (.pointer (some a))
   | .iface t v=>K (.iface t v)
   |_=>none
 | .lenS,[x]=>asS x fun s=>K (.int .i64 (slen s))
 | .lenSl,[x]=>asSl x fun _ n _=>K (.int .i64 n)
 | .lenArr n,[_]=>K (.int .i64 n)
 | .mm mx k,x::vs=>asI k x fun a=>mmL mx k vs a fun r=>K (.int k r)
 | .mkFunc fn nf,vs=>K (.func fn (vs.take nf).toArray (vs.drop nf).toArray)
 | .mkIface t,[x]=>K (.iface t x)
 |_,_=>none
namespace Heap
def row(H:Heap)(b:Nat):Option (List Value):=match H.get b with
 |some (.cells c _ _ _ _)=>some c
 |_=>none
def ld1(H:Heap)(a:Addr):Option Value:=match H.get a.block with
 |some (.cells c _ _ _ _)=>c[a.off]?
 |_=>none
def ldN(H:Heap)(a:Addr)(n:Nat):Option (List Value):=match H.get a.block with
 |some (.cells c _ _ _ _)=>if a.off+n≤c.length then some ((c.drop a.off).take n)else none
 |_=>none
def stN(H:Heap)(a:Addr)(vs:List Value):Option Heap:=match H.get a.block with
 |some (.cells c e o fz s)=>if a.off+vs.length≤c.length∧fz≤a.off then some (H.put a.block (.cells (splice c a.off vs) e o fz s))else none
 |_=>none
def st1(H:Heap)(a:Addr)(v:Value):Option Heap:=match H.get a.block with
 |some (.cells c e o fz s)=>if a.off<c.length∧fz≤a.off then some (H.put a.block (.cells (c.set a.off v) e o fz s))else none
 |_=>none
end Heap
def bytesOf:List Value→Option (List UInt8)
 |[]=>some []
 | .int .u8 n::l=>match bytesOf l with
   |some r=>some (UInt8.ofNat n.toNat::r)
   |none=>none
 |_=>none
def runesOf:List Value→Option (List UInt8)
 |[]=>some []
 | .int .i32 n::l=>match runesOf l with
   |some r=>some (lst (Utf8.encode n)++r)
   |none=>none
 |_=>none
def Heap.alive(H:Heap)(b:Nat):Bool:=(H.get b).isSome
def Heap.clear(H:Heap)(b:Nat):Bool:=match H.get b with
 |some (.cells c _ _ fz s)=>!c.isEmpty&&fz==0&& !s
 |_=>false
def Heap.opnOk(H:Heap)(b:Nat)(elem:TypeId):Bool:=match H.get b with
 |some (.cells _ e o _ _)=>!o||e==elem
 |_=>false
def isKey:Kd0→Value→Bool
 | .int k,.int k' _=>decide (k'=k)
 | .str,.string _=>true
 | .bool,.bool _=>true
 |_,_=>false
def mapFind(kd:Kd0)(k:Value):List (Value×Value×Nat)→Nat→Option (Option (Nat×Value×Nat))
 |[],_=>some none
 |e::es,i=>match eqC kd k e.1 with
  |some true=>some (some (i,e.2))
  |some false=>mapFind kd k es (i+1)
  |none=>none
def lookV(v:Value)(b ok:Bool):Value:=if ok then .tuple #[v,.bool b]else v
def Heap.ents(H:Heap)(r:Nat):Option (List (Value×Value×Nat)×Nat):=match H.get r with
 |some (.map es clock)=>some (es,clock)
 |_=>none
def mapD(e:ME)(vs:List Value)(H:Heap):Option (Value×Heap):=match e,vs with
 | .mk,[]=>some (.map (some H.next),H.new (.map [] 0))
 | .upd kd,[.map (some r),k,v]=>if isKey kd k=true then(match H.ents r with
   |some (es,clock)=>match mapFind kd k es 0 with
    |some (some (i,_,b))=>some (.tuple #[],H.put r (.map (es.set i (k,v,b)) clock))
    |some none=>some (.tuple #[],H.put r (.map (es++[(k,v,clock)]) (clock+1)))
    |none=>none
   |none=>none)else none
 | .del kd,[.map none,k]=>if isKey kd k=true then some (.tuple #[],H)else none
 | .del kd,[.map (some r),k]=>if isKey kd k=true then(match H.ents r with
   |some (es,clock)=>match mapFind kd k es 0 with
    |some (some (i,_))=>some (.tuple #[],H.put r (.map (es.eraseIdx i) clock))
    |some none=>some (.tuple #[],H.put r (.map es clock))
    |none=>none
   |none=>none)else none
 |_,_=>none
def readD(r:RI)(vs:List Value)(H:Heap):Option Value:=match r,vs with
 | .lookup kd z ok,[.map r,k]=>if isKey kd k=true then(match r with
   |none=>some (lookV z false ok)
   |some r=>match H.ents r with
    |some (es,_)=>match mapFind kd k es 0 with
     |some (some (_,v,_))=>some (lookV v true ok)
     |some none=>some (lookV z false ok)
     |none=>none
    |none=>none)else none
 | .lenMap,[.map r]=>match r with
   |none=>some (.int .i64 0)
   |some r=>match H.ents r with
    |some (es,_)=>some (.int .i64 es.length)
    |none=>none
 | .toUns,[.pointer a]=>match a with
   |none=>some (.pointer none)
   |some a=>match H.get a.block with
    |some (.cells c _ _ _ _)=>if a.off<c.length then some (.pointer (some a))else none
    |_=>none
 | .fromUns elem size,[.pointer a]=>match a with
   |none=>some (.pointer none)
   |some a=>match H.get a.block with
    |some (.cells c e o _ st)=>if a.off=0∧c.length=size∧e=elem∧o=false∧st=false then some (.pointer (some a))else none
    |_=>none
 | .load n agg,[.pointer (some a)]=>if agg then(match H.ldN a n with
    |some l=>some (.agg l.toArray)
    |none=>none)else H.ld1 a
 | .bytesStr,[.slice a n _]=>match a with
   |none=>some (.string (S []))
   |some a=>if n=0 then some (.string (S []))else match H.ldN a n with
    |some l=>match bytesOf l with
     |some r=>some (.string (S r))
     |none=>none
    |none=>none
 | .runesStr,[.slice a n _]=>match a with
   |none=>some (.string (S []))
   |some a=>if n=0 then some (.string (S []))else match H.ldN a n with
    |some l=>match runesOf l with
     |some r=>some (.string (S r))
     |none=>none
    |none=>none
 | .subSl elem size lo hi mx,x::vs=>asSl x fun a n c=>bnds n c lo hi mx vs fun l h m=>match a with
   |some a=>chk (l==0||mx||H.opnOk a.block elem) (some (.slice (some (if l=0 then a else ap a (l*size))) (h-l) (m-l)))
   |none=>some (.slice none (h-l) (m-l))
 | .eqP neg,[.pointer a,.pointer b]=>match a,b with
   |none,b=>some (.bool (if neg then !b.isNone else b.isNone))
   |some _,none=>some (.bool neg)
   |some a,some b=>chk (if a.block=b.block then H.alive a.block else H.clear a.block&&H.clear b.block)
    (some (.bool (if neg then !(decide (a.block=b.block∧a.off=b.off))else decide (a.block=b.block∧a.off=b.off))))
 |_,_=>none
def srcN:Bool→Value→Option Nat
 |false,.slice _ n _=>some n
 |true,.string s=>some (slen s)
 |_,_=>none
def srcCells(H:Heap)(size n:Nat):Value→Option (List Value)
 | .slice none _ _=>some []
 | .slice (some a) _ _=>if n=0 then some []else H.ldN a (n*size)
 | .string s=>some (((lst s).take n).map fun b=>.int .u8 b.toNat)
 |_=>none
def exact(esz n off cc:Nat)(opn:Bool):Bool:= !opn||(cc !=0&&off+cc*esz !=n)
def appendK(elem:TypeId)(size bytes:Nat)(str:Bool)(s x:Value)(H:Heap)(K:Value→Heap→Res):Res:=asSl s fun a len cc=>optK (srcN str x) fun n=>optK (srcCells H size n x) fun new=>if len+n≤cc then(if n=0 then K (.slice a len cc) H else if size=0 then none else match a with
 |some ad=>optK (H.stN (ap ad (len*size)) new) fun H'=>K (.slice a (len+n) cc) H'
 |none=>none)
 else if(len+n)*bytes≤70368744177664∧0<bytes∧0<size then match a with
  |none=>K (.slice (some ⟨H.next,0,none⟩) (len+n) (len+n)) (H.new (.cells new elem true 0 false))
  |some ad=>match ad.spot with
   |some _=>if len=0 then K (.slice (some ⟨H.next,0,none⟩) (len+n) (len+n)) (H.new (.cells new elem true 0 false))else none
   |none=>match H.get ad.block with
   |some (.cells c e o fz st)=>
    if ad.off+len*size≤c.length then(if exact size c.length ad.off cc o=true∧(o=false∨e=elem)then K (.slice (some ⟨H.next,0,none⟩) (len+n) (len+n)) (H.new (.cells ((c.drop ad.off).take (len*size)++new) elem true 0 false))else if e=elem∧fz≤ad.off+len*size then K (.slice (some ⟨H.next,0,none⟩) (len+n) (len+n)) ((H.kill ad.block).new (.cells ((c.drop ad.off).take (len*size)++new) elem true (fz-ad.off) st))else none)
    else none
   |_=>none
 else none
def rep(z:List Value):Nat→List Value
 |0=>[]
 |n+1=>z++rep z n
def effK(e:EI)(vs:List Value)(H:Heap)(K:Value→Heap→Res):Res:=match e,vs with
 | .alloc elem zero,[]=>K (.pointer (some ⟨H.next,0,none⟩)) (H.new (.cells zero elem false 0 false))
 | .box elem,[v]=>if(cellsL v).all one=true then K (.pointer (some ⟨H.next,0,none⟩)) (H.new (.cells (cellsL v) elem false 0 false))else none
 | .buildSl elem len zs parts,vs=>optK (fillL parts vs zs) fun cs=>K (.slice (some ⟨H.next,0,none⟩) len len) (H.new (.cells cs elem false 0 false))
 | .mkSl elem _ bytes zero,[l,c]=>asN l fun l=>asN c fun c=>if 0≤l∧l≤c∧c*bytes≤140737488355328∧c≤140737488355328 then K (.slice (some ⟨H.next,0,none⟩) l.toNat c.toNat) (H.new (.cells (rep zero c.toNat) elem false 0 false))else none
 | .store n,[.pointer (some a),v]=>if n=1 then(match cellsL v with
    |[x]=>if one x=true then optK (H.st1 a x) fun H'=>K (.tuple #[]) H' else none
    |_=>none)else
    if(cellsL v).length=n∧(cellsL v).all one=true∧0<n then optK (H.stN a (cellsL v)) fun H'=>K (.tuple #[]) H' else none
 | .append elem size bytes str,[s,x]=>appendK elem size bytes str s x H K
 | .copy size str,[d,x]=>asSl d fun a len _=>optK (srcN str x) fun m=>let n:=min m len
    if n=0 then K (.int .i64 0) H else if 0<size then optK (srcCells H size n x) fun new=>match a with
     |some ad=>optK (H.stN ad new) fun H'=>K (.int .i64 n) H'
     |none=>none
    else none
 | .clearSl size zero,[d]=>asSl d fun a len _=>if len=0∨size=0 then K (.tuple #[]) H else match a with
    |some ad=>if zero.length=size then optK (H.stN ad (rep zero len)) fun H'=>K (.tuple #[]) H' else none
    |none=>none
 | .rangeS,[.string s]=>K (.pointer (some ⟨H.next,0,none⟩)) (H.new (.iter s 0))
 | .nextS,[.pointer (some a)]=>match H.get a.block with
   |some (.iter s pos)=>if a.off=0 then(if pos<slen s then K (.tuple #[.bool true,.int .i64 pos,.int .i32 (Utf8.decode s pos).1]) (H.put a.block (.iter s (pos+(Utf8.decode s pos).2)))else K (.tuple #[.bool false]) H)else none
   |_=>none
 | .strBytes elem,[.string s]=>K (.slice (some ⟨H.next,0,none⟩) (slen s) (slen s)) (H.new (.cells ((lst s).map fun b=>.int .u8 b.toNat) elem true 0 true))
 | .strRunes elem,[.string s]=>
    let l:=(Conv.runesFrom s (slen s) 0 #[]).toList
    K (.slice (some ⟨H.next,0,none⟩) l.length l.length) (H.new (.cells l elem true 0 false))
 | .slData,[.slice a _ c]=>match a with
   |none=>K (.pointer none) H
   |some a=>if c=0 then none else K (.pointer (some a)) H
 | .markStr,[.slice a n c]=>match a with
   |none=>none
   |some a=>match(if a.spot.isSome then none else H.get a.block)with
    |some (.cells l e o fz st)=>if o=false∧fz=0∧st=false then K (.slice (some a) n c) (H.put a.block (.cells l e o 0 true))else none
    |_=>none
 | .unsStr elem,[.pointer a,.int _ n]=>match a with
   |none=>if n=0 then K (.string (S [])) H else none
   |some a=>if n=0 then K (.string (S [])) H else if 0<n∧n≤9223372036854775807 then(match H.get a.block with
    |some (.cells c e o fz st)=>if a.off+n.toNat≤c.length∧st=false∧e=elem then optK (bytesOf ((c.drop a.off).take n.toNat)) fun l=>
      K (.string (S l)) (H.put a.block (.cells c e o (max fz (a.off+n.toNat)) st))else none
    |_=>none)else none
 | .mapE e,vs=>optK (mapD e vs H) fun r=>K r.1 r.2
 |_,_=>none
abbrev CallF:=Nat→List Value→Heap→Res
def insK(call:CallF)(o:COp)(fr:Fr)(H:Heap)(K:Value→Heap→Res):Res:=match o.ins with
 | .bad=>none
 | .pure p=>optK (evs fr o.args) fun vs=>pureK p vs fun v=>cast o.kd v fun v=>K v H
 | .pick=>match o.args with
   |[c,a,b]=>optK (ev fr c) fun c=>asB c fun c=>optK (ev fr (if c then a else b)) fun v=>cast o.kd v fun v=>K v H
   |_=>none
 | .read r=>optK (evs fr o.args) fun vs=>optK (readD r vs H) fun v=>cast o.kd v fun v=>K v H
 | .eff e=>optK (evs fr o.args) fun vs=>effK e vs H fun v H=>cast o.kd v fun v=>K v H
 | .call f=>optK (evs fr o.args) fun vs=>callK (call f vs H) fun v H=>cast o.kd v fun v=>K v H
 | .callv=>optK (evs fr o.args) fun vs=>match vs with
   | .func (.func f) first cap::vs=>callK (call f (first.toList++vs++cap.toList) H) fun v H=>cast o.kd v fun v=>K v H
   |_=>none
def gB(v:Value)(K:Bool→Res)(E:Res):Res:=match v with
 | .bool b=>K b
 |_=>E
def guardK(g:Option (Nat×Bool))(fr:Fr)(yes no:Fr→Res):Res:=match g with
 |none=>yes fr
 |some (t,w)=>optK (fr.get t) fun v=>gB v (fun b=>if b=true then(if w then yes else no) ((t,.bool true)::fr)else(if w then no else yes) ((t,.bool false)::fr)) (no fr)
def runOps(call:CallF):List COp→Fr→Heap→(Fr→Heap→Res)→Res
 |[],fr,H,K=>K fr H
 |o::os,fr,H,K=>guardK o.guard fr (fun fr=>insK call o fr H fun v H=>runOps call os (fr.setO o.dst v) H K) (fun fr=>runOps call os (fr.delO o.dst) H K)
def same0:Value→Value→Bool
 | .bool a,.bool b=>a==b
 | .int k a,.int k' b=>decide (k=k')&&decide (a=b)
 | .string a,.string b=>sEq a b
 | .pointer a,.pointer b=>decide (a=b)
 | .slice a n c,.slice a' n' c'=>decide (a=a')&&decide (n=n')&&decide (c=c')
 | .map a,.map b=>decide (a=b)
 | .nilIface,.nilIface=>true
 | .nilFunc,.nilFunc=>true
 |_,_=>false
def sameL:List Value→List Value→Bool
 |[],[]=>true
 |a::as,b::bs=>same0 a b&&sameL as bs
 |_,_=>false
def same:Value→Value→Bool
 | .agg a,.agg b=>sameL a.toList b.toList
 | .tuple a,.tuple b=>sameL a.toList b.toList
 |a,b=>same0 a b
structure Rd where
 r:RI
 vs:List Value
 v:Value
 lo:Nat
 hi:Nat
def rdOk(hs:List Heap)(d:Rd):Nat→Nat→Bool
 |_,0=>true
 |k,n+1=>(match hs[k]? with
  |some H=>(match readD d.r d.vs H with
   |some v=>same d.v v
   |none=>false)
  |none=>false)&&rdOk hs d (k+1) n
def rdsOk(hs:List Heap):List Rd→Bool
 |[]=>true
 |d::ds=>rdOk hs d d.lo (d.hi+1-d.lo)&&rdsOk hs ds
def aliveRds(vs:List Value)(H:Heap)(n:Nat):List Rd:=match vs with
 |[]=>[]
 |v::vs=>(match v with
  | .slice (some a) _ _=>(match H.get a.block with
    |some _=>[⟨.load 0 true,[.pointer (some ⟨a.block,0,none⟩)],.agg #[],n,n⟩]
    |none=>[])
  |_=>[])++aliveRds vs H n
def runD(call:CallF):List (COp×Nat×Nat)→Fr→Heap→List Heap→List Rd→(Fr→Heap→Res)→Res
 |[],fr,H,hs,rds,K=>chk (rdsOk hs.reverse rds) (K fr H)
 |(o,lo,hi)::os,fr,H,hs,rds,K=>guardK o.guard fr (fun fr=>match o.ins with
  | .read r=>optK (evs fr o.args) fun vs=>optK (readD r vs H) fun v=>cast o.kd v fun x=>
     runD call os (fr.setO o.dst x) H hs (if lo<hi then⟨r,vs,v,lo,hi⟩::rds else rds) K
  | .pure _| .pick=>insK call o fr H fun v H=>runD call os (fr.setO o.dst v) H hs rds K
  |_=>insK call o fr H fun v H'=>match Nat.ble lo hi with
   |true=>runD call os (fr.setO o.dst v) H' (H'::hs) rds K
   |false=>chk (!(Nat.beq H'.next H.next)) (optK (evs fr o.args) fun vs=>runD call os (fr.setO o.dst v) H' (H'::hs) (aliveRds vs H' hi++rds) K))
   (fun fr=>match o.ins with
    | .read _| .pure _| .pick=>runD call os (fr.delO o.dst) H hs rds K
    |_=>runD call os (fr.delO o.dst) H (H::hs) rds K)
abbrev Kt:=Fr→Heap→Res
def look(ke:List (Nat×Kt))(id:Nat):Kt:=match ke with
 |[]=>fun _ _=>none
 |(i,k)::ke=>if id=i then k else look ke id
def iter(body:Kt→Kt):Nat→Kt
 |0=>fun _ _=>none
 |n+1=>body (iter body n)
def backK(live:List (Nat×Kd0))(k:Kt):Kt:=fun fr H=>liveK live fr fun fr=>k fr H
noncomputable def opq(k:Kt):Kt:=Classical.choose (⟨k,rfl⟩:∃k':Kt,k'=k)
theorem opq_eq(k:Kt):opq k=k:=Classical.choose_spec (⟨k,rfl⟩:∃k':Kt,k'=k)
theorem opq_app(k:Kt)(fr:Fr)(H:Heap):opq k fr H=k fr H:=by rw[opq_eq]
noncomputable def run(call:CallF)(N:Nat):CCode→Kt→List (Nat×Kt)→Kt→Kt
 | .skip,kn,_,_=>kn
 | .seq a b,kn,ke,kr=>run call N a (run call N b kn ke kr) ke kr
 | .reg ops,kn,_,_=>fun fr H=>runOps call ops fr H kn
 | .regD al ops,kn,_,_=>fun fr H=>runOps call al fr H fun fr H=>runD call ops fr H [H] [] kn
 | .cond c a b,kn,ke,kr=>fun fr H=>optK (ev fr c) fun v=>asB v fun t=>if t=true then run call N a kn ke kr fr H else run call N b kn ke kr fr H
 | .block id c,kn,ke,kr=>run call N c kn ((id,kn)::ke) kr
 | .loop c,_,ke,kr=>iter (fun k=>run call N c k ke kr) N
 | .exit id,_,ke,_=>look ke id
 | .ret,_,_,kr=>kr
 | .bad,_,_,_=>fun _ _=>none
 | .cut live c,kn,ke,kr=>backK live (opq (run call N c kn ke kr))
 | .loopC live c,_,ke,kr=>backK live (opq (iter (fun k=>run call N c (backK live (opq k)) ke kr) N))
def resL(H:Heap)(fr:Fr):List CRes→Option (List Value)
 |[]=>some []
 | .tmp t::l=>match fr.get t with
   |some v=>match resL H fr l with
    |some r=>some (v::r)
    |none=>none
   |none=>none
 | .cell t n agg::l=>match fr.get t with
   |some v=>match readD (.load n agg) [v] H with
    |some x=>match resL H fr l with
     |some r=>some (x::r)
     |none=>none
    |none=>none
   |none=>none
def retK(rs:List CRes)(fr:Fr)(H:Heap):Res:=match resL H fr rs with
 |some [v]=>some (v,H)
 |some vs=>some (.tuple vs.toArray,H)
 |none=>none
def frame0:Nat→List Value→Fr
 |_,[]=>[]
 |i,v::vs=>(i,v)::frame0 (i+1) vs
structure CProg where
 fn:Nat→Option CFunc
 prim:Nat→Option (List Value→Heap→Res)
noncomputable def callD(C:CProg)(N:Nat):Nat→CallF
 |0=>fun _ _ _=>none
 |d+1=>fun f vs H=>match C.prim f with
  |some p=>p vs H
  |none=>match C.fn f with
   |some c=>run (callD C N d) N c.body (retK c.results) [] (retK c.results) (frame0 0 vs) H
   |none=>none
def plain:Value→Bool
 | .bool _| .int _ _| .string _| .pointer none| .slice none 0 0| .map none| .nilFunc| .nilIface=>true
 |_=>false
def plainV:Value→Bool
 | .agg cs=>cs.toList.all plain
 |v=>plain v
def copd(gl:List Nat):Operand→Option COpd
 | .tmp t=>some (.tmp t)
 | .const v=>if plainV v then some (.const v)else none
 | .global g=>if gl.contains g then some (.glob g)else none
 | .func f=>some (.fn f)
def copds(gl:List Nat):List Operand→Option (List COpd)
 |[]=>some []
 |x::xs=>match copd gl x,copds gl xs with
  |some y,some ys=>some (y::ys)
  |_,_=>none
def okElem(P:Program)(e:TypeId):Bool:=(P.underlying e).isSome
def isAggT(P:Program)(t:TypeId):Bool:=match P.underlying t with
 |some (.struct _)|some (.array _ _)=>true
 |_=>false
def isNilC:NK→Operand→Bool
 | .p,.const (.pointer none)=>true
 | .s,.const (.slice none 0 0)=>true
 | .m,.const (.map none)=>true
 | .f,.const .nilFunc=>true
 | .i,.const .nilIface=>true
 |_,_=>false
def nkOf:TypeDesc→Option NK
 | .pointer _=>some .p
 | .slice _=>some .s
 | .map _ _=>some .m
 | .func _ _ _=>some .f
 | .interface _=>some .i
 |_=>none
def flat(P:Program):Nat→TypeId→Option (List Kd0)
 |0,_=>none
 |d+1,t=>match P.underlying t with
  |some (.int k)=>some [.int k]
  |some .bool=>some [.bool]
  |some .string=>some [.str]
  |some (.array len e)=>match flat P d e with
   |some ks=>if P.cellsOf e=ks.length then some (List.replicate len ks).flatten else none
   |none=>none
  |some (.struct fs)=>if P.stoodInHeld t then none else flatF P (flat P d) fs.toList 0
  |_=>none
where
 flatF (P:Program) (fl:TypeId→Option (List Kd0)):List Field→Nat→Option (List Kd0)
  |[],_=>some []
  |f::fs,a=>match fl f.type with
   |some ks=>if f.offset=a∧P.cellsOf f.type=ks.length∧f.name≠ "_" then(match flatF P fl fs (a+ks.length)with
    |some r=>some (ks++r)
    |none=>none)else none
   |none=>none
def cEq(P:Program)(op:BinOp)(t:TypeId)(d:TypeDesc)(x y:Operand):Option (CIns×List Operand):=match nkOf d with
 |some k=>if isNilC k y then some (.pure (.eqN (op== .neq) k),[x])else if isNilC k x then some (.pure (.eqN (op== .neq) k),[y])else(match d with
  | .pointer e=>if okElem P e=true∧P.cellsOf e≠0 then some (.read (.eqP (op== .neq)),[x,y])else none
  |_=>none)
 |none=>match d with
  | .bool=>some (.pure (.eqB (op== .neq)),[x,y])
  | .struct _| .array _ _=>match flat P 20 t with
    |some ks=>if P.eqGuardType P.depth t then none else some (.pure (.eqA (op== .neq) ks),[x,y])
    |none=>none
  |_=>none
def cBin(P:Program)(op:BinOp)(t:TypeId)(x y:Operand):Option (CIns×List Operand):=match P.underlying t with
 |some (.int k)=>match op with
  | .add| .sub| .mul=>some (.pure (.arith op k),[x,y])
  | .quo| .rem=>some (.pure (.div op k),[x,y])
  | .and| .or| .xor| .andNot=>some (.pure (.bits op k),[x,y])
  | .shl| .shr=>some (.pure (.shift op k),[x,y])
  |_=>some (.pure (.cmp op k),[x,y])
 |some .string=>match op with
  | .add=>some (.pure .sadd,[x,y])
  | .eql| .neq| .lss| .leq| .gtr| .geq=>some (.pure (.scmp op),[x,y])
  |_=>none
 |some d=>match op with
  | .eql| .neq=>cEq P op t d x y
  |_=>none
 |none=>none
def cConv0(P:Program)(src dst:TypeId)(x:Operand):Option (CIns×List Operand):=match P.underlying src,P.underlying dst with
 |some (.int _),some (.int k)=>some (.pure (.convI k),[x])
 |some (.int _),some .string=>some (.pure .convIS,[x])
 |some .string,some .string=>some (.pure .movS,[x])
 |some .string,some (.slice e)=>match P.underlying e with
  |some (.int .u8)=>if P.cellsOf e=1 then some (.eff (.strBytes e),[x])else none
  |some (.int .i32)=>if P.cellsOf e=1 then some (.eff (.strRunes e),[x])else none
  |_=>none
 |some (.slice e),some .string=>match P.underlying e with
  |some (.int .u8)=>some (.read .bytesStr,[x])
  |some (.int .i32)=>some (.read .runesStr,[x])
  |_=>none
 |some (.pointer t),some .unsafePointer=>match P.info? t with
  |some j=>if j.size≠0 then some (.read .toUns,[x])else none
  |none=>none
 |some .unsafePointer,some (.pointer u)=>if(P.info? u).isSome=true∧0<P.cellsOf u then some (.read (.fromUns u (P.cellsOf u)),[x])else none
 |_,_=>none
def isMark(P:Program)(src dst:TypeId):Bool:=match P.underlying dst with
 |some (.slice e)=>src==dst&&(match P.underlying e with
  |some (.int .u8)=>true
  |_=>false)
 |_=>false
def cConv(P:Program)(src dst:TypeId)(x:Operand):Option (CIns×List Operand):=if isMark P src dst then some (.eff .markStr,[x])else cConv0 P src dst x
def isAggV:Value→Bool
 | .agg _=>true
 |_=>false
def zeroL(P:Program)(t:TypeId):Option (List Value):=match P.info? t with
 |some i=>match i.zero with
  |some z=>if(cellsL z).all plain=true∧(cellsL z).length=i.size∧isAggT P t=isAggV z then some (cellsL z)else none
  |none=>none
 |none=>none
def keyKd:TypeDesc→Option Kd0
 | .int k=>some (.int k)
 | .string=>some .str
 | .bool=>some .bool
 |_=>none
def mapKd(P:Program)(t:TypeId):Option (Kd0×TypeId):=match P.underlying t with
 |some (.map k e)=>match P.underlying k with
  |some d=>match keyKd d with
   |some kd=>some (kd,e)
   |none=>none
  |none=>none
 |_=>none
def fieldOf(P:Program)(t:TypeId)(f:Nat):Option (Nat×Nat×Bool):=match P.underlying t with
 |some (.struct fs)=>match fs[f]? with
  |some x=>if okElem P x.type then some (x.offset,P.cellsOf x.type,isAggT P x.type)else none
  |none=>none
 |_=>none
def partsOf(P:Program)(fs:Array Field):List (Nat×Operand)→Option (List (Nat×Nat)×List Operand)
 |[]=>some ([],[])
 |(i,x)::l=>match fs[i]?,partsOf P fs l with
  |some f,some (ps,xs)=>some ((f.offset,P.cellsOf f.type)::ps,x::xs)
  |_,_=>none
def rowParts(size:Nat)(l:List (Nat×Operand)):List (Nat×Nat)×List Operand:=(l.map fun p=>(p.1*size,size),l.map (·.2))
def cSlice(P:Program)(t:TypeId)(x:Operand)(lo hi mx:Option Operand):Option (CIns×List Operand):=let xs:=x::(lo.toList++hi.toList++mx.toList)
 match P.underlying t with
 |some .string=>if mx.isNone then some (.pure (.subS lo.isSome hi.isSome),xs)else none
 |some (.slice e)=>if okElem P e then some (.read (.subSl e (P.cellsOf e) lo.isSome hi.isSome mx.isSome),xs)else none
 |some (.array n e)=>if okElem P e then some (.pure (.subAp n (P.cellsOf e) lo.isSome hi.isSome mx.isSome),xs)else none
 |some (.pointer arr)=>match P.underlying arr with
  |some (.array n e)=>if okElem P e then some (.pure (.subAp n (P.cellsOf e) lo.isSome hi.isSome mx.isSome),xs)else none
  |_=>none
 |_=>none
def cBuiltin(P:Program)(b:Builtin)(argTypes:Array TypeId)(args:List Operand):Option (CIns×List Operand):=match b,argTypes.toList,args with
 | .len,[t],[x]=>match P.underlying t with
   |some .string=>some (.pure .lenS,[x])
   |some (.array n _)=>some (.pure (.lenArr n),[x])
   |some (.slice _)=>some (.pure .lenSl,[x])
   |some (.pointer arr)=>match P.underlying arr with
    |some (.array n _)=>some (.pure (.lenArr n),[x])
    |_=>none
   |some (.map _ _)=>some (.read .lenMap,[x])
   |_=>none
 | .min,t::_,xs=>match P.underlying t with
   |some (.int k)=>some (.pure (.mm false k),xs)
   |_=>none
 | .max,t::_,xs=>match P.underlying t with
   |some (.int k)=>some (.pure (.mm true k),xs)
   |_=>none
 | .append,[t,u],[s,x]=>match P.underlying t,P.underlying u with
   |some (.slice e),some (.slice _)=>if okElem P e&&(zeroL P e).isSome then some (.eff (.append e (P.cellsOf e) (P.bytesOf e) false),[s,x])else none
   |some (.slice e),some .string=>if okElem P e&&(zeroL P e).isSome&&decide (P.cellsOf e=1)then some (.eff (.append e 1 (P.bytesOf e) true),[s,x])else none
   |_,_=>none
 | .copy,[t,u],[d,x]=>match P.underlying t,P.underlying u with
   |some (.slice e),some (.slice _)=>if okElem P e then some (.eff (.copy (P.cellsOf e) false),[d,x])else none
   |some (.slice e),some .string=>if okElem P e&&decide (P.cellsOf e=1)then some (.eff (.copy 1 true),[d,x])else none
   |_,_=>none
 | .clear,[t],[d]=>match P.underlying t with
   |some (.slice e)=>match zeroL P e with
    |some z=>some (.eff (.clearSl (P.cellsOf e) z),[d])
    |none=>none
   |_=>none
 | .delete,[t,_],[m,k]=>match mapKd P t with
   |some (kd,_)=>some (.eff (.mapE (.del kd)),[m,k])
   |none=>none
 | .unsafeSliceData,[_],[x]=>some (.eff .slData,[x])
 | .unsafeString,[t,_],[p,n]=>match P.underlying t with
   |some (.pointer e)=>match P.underlying e with
    |some (.int .u8)=>if P.cellsOf e=1 then some (.eff (.unsStr e),[p,n])else none
    |_=>none
   |_=>none
 |_,_,_=>none
def cOp(P:Program)(o:Oper):Option (CIns×List Operand):=match o.op with
 | .move x| .assign x=>some (.pure .mov,[x])
 | .pick c a b=>some (.pick,[c,a,b])
 | .alloc e=>match zeroL P e with
   |some z=>some (.eff (.alloc e z),[])
   |none=>none
 | .box e x=>some (.eff (.box e),[x])
 | .build t ps=>match zeroL P t,P.underlying t with
   |some z,some (.struct fs)=>match partsOf P fs ps.toList with
    |some (pl,xs)=>if(ps.toList.all fun p=>match fs[p.1]? with|some f=>okElem P f.type|none=>false)&&(fs.toList.all fun f=>okElem P f.type)then some (.pure (.build z pl),xs)else none
    |none=>none
   |some z,some (.array _ e)=>if okElem P e then some (.pure (.build z (rowParts (P.cellsOf e) ps.toList).1),(rowParts (P.cellsOf e) ps.toList).2)else none
   |_,_=>none
 | .buildSlice t len ps=>match P.underlying t with
   |some (.slice e)=>match zeroL P e with
    |some z=>if len*P.cellsOf e≤16777216∧0<P.cellsOf e then some (.eff (.buildSl e len (rep z len) (rowParts (P.cellsOf e) ps.toList).1),(rowParts (P.cellsOf e) ps.toList).2)else none
    |none=>none
   |_=>none
 | .load t a=>if okElem P t then some (.read (.load (P.cellsOf t) (isAggT P t)),[a])else none
 | .store t a v=>if okElem P t then some (.eff (.store (P.cellsOf t)),[a,v])else none
 | .nilCheck x=>some (.pure .nilCk,[x])
 | .binOp op t x y _=>cBin P op t x y
 | .unOp op _ x=>match op,P.underlying o.type with
   | .not,_=>some (.pure .notB,[x])
   | .neg,some (.int k)=>some (.pure (.negI k),[x])
   | .xor,some (.int k)=>some (.pure (.xorI k),[x])
   |_,_=>none
 | .convert s d x=>cConv P s d x
 | .makeInterface t x=>match P.underlying t with
   |some (.interface _)=>none
   |some _=>some (.pure (.mkIface t),[x])
   |none=>none
 | .makeFunc fn first cap=>some (.pure (.mkFunc fn first.size),first.toList++cap.toList)
 | .makeSlice t l c=>match P.underlying t with
   |some (.slice e)=>match zeroL P e with
    |some z=>if 0<P.cellsOf e then some (.eff (.mkSl e (P.cellsOf e) (P.bytesOf e) z),[l,c])else none
    |none=>none
   |_=>none
 | .makeMap _ r=>match r with
   |none=>some (.eff (.mapE .mk),[])
   |some _=>none
 | .lookup t x i ok=>match mapKd P t with
   |some (kd,e)=>match zeroL P e with
    |some z=>some (.read (.lookup kd (if isAggT P e then .agg z.toArray else z.headD undef) ok),[x,i])
    |none=>none
   |none=>none
 | .mapUpdate t m k x=>match mapKd P t with
   |some (kd,_)=>some (.eff (.mapE (.upd kd)),[m,k,x])
   |none=>none
 | .insert t m k x=>match mapKd P t with
   |some (kd,_)=>some (.eff (.mapE (.upd kd)),[m,k,x])
   |none=>none
 | .slice t x lo hi mx=>cSlice P t x lo hi mx
 | .fieldAddr s x f=>match fieldOf P s f with
   |some (off,n,_)=>if 0<n then some (.pure (.fieldAddr off),[x])else none
   |none=>none
 | .field t x f=>match fieldOf P t f with
   |some (off,n,agg)=>some (.pure (.field off n agg),[x])
   |none=>none
 | .indexAddr t x i=>match P.underlying t with
   |some (.array n e)=>if okElem P e then some (.pure (.idxAddrAp n (P.cellsOf e)),[x,i])else none
   |some (.slice e)=>if okElem P e then some (.pure (.idxAddrSl (P.cellsOf e)),[x,i])else none
   |_=>none
 | .index t x i=>match P.underlying t with
   |some (.array n e)=>if okElem P e then some (.pure (.idxA n (P.cellsOf e) (isAggT P e)),[x,i])else none
   |some .string=>some (.pure .idxS,[x,i])
   |_=>none
 | .range t x=>match P.underlying t with
   |some .string=>some (.eff .rangeS,[x])
   |_=>none
 | .next it isS=>if isS then some (.eff .nextS,[it])else none
 | .extract x i=>some (.pure (.extract i),[x])
 | .call c=>match c.callee with
   | .builtin b=>cBuiltin P b c.argTypes c.args.toList
   | .value (.func f)=>some (.call f,c.args.toList)
   | .value f=>some (.callv,f::c.args.toList)
   |_=>none
 |_=>none
def guardOf(ops:Array Oper)(g:Option (Nat×Bool)):Option (Option (Nat×Bool)):=match g with
 |none=>some none
 |some (j,w)=>match(ops[j]?).bind (·.dst)with
  |some t=>some (some (t,w))
  |none=>none
def strip0:Kd:=.one .any
def badOp(d:Option Nat)(g:Option (Nat×Bool)):COp:=⟨d,strip0,g,.bad,[]⟩
def dstOk(nt:Nat):Option Nat→Bool
 |some d=>decide (d<nt)
 |none=>true
def cOper(gl:List Nat)(nt:Nat)(P:Program)(ops:Array Oper)(o:Oper):Option COp:=match guardOf ops o.guard with
 |some g=>if dstOk nt o.dst then(match cOp P o with
  |some (i,xs)=>match copds gl xs with
   |some ys=>some ⟨o.dst,strip0,g,i,ys⟩
   |none=>some (badOp o.dst g)
  |none=>some (badOp o.dst g))else none
 |none=>none
def cOpers(gl:List Nat)(nt:Nat)(P:Program)(ops:Array Oper):List Oper→Option (List COp)
 |[]=>some []
 |o::l=>match cOper gl nt P ops o,cOpers gl nt P ops l with
  |some c,some cs=>some (c::cs)
  |_,_=>none
def ancs:List Oper→List (List Nat)→List (List Nat)
 |[],acc=>acc
 |o::l,acc=>ancs l (acc++[(o.after.toList.flatMap fun e=>if Region.binds .any e then e.on::acc.getD e.on []else []).eraseDups])
def CIns.still:CIns→Bool
 | .pure _| .pick| .read _=>true
 |_=>false
def CIns.isAlloc:CIns→Bool
 | .eff (.alloc _ _)=>true
 |_=>false
def COp.looks(c:COp):List Nat:=(c.args.filterMap fun| .tmp t=>some t|_=>none)++(match c.guard with
 |some (t,_)=>[t]
 |none=>[])
def COp.clash(x y:COp):Bool:=match x.dst with
 |some d=>y.looks.contains d||y.dst==some d
 |none=>false
def posOp(cs:List COp)(i:Nat):COp:=cs.getD i (badOp none none)
def ordA(cs:List COp):List Nat:=(List.range cs.length).filter fun i=>(posOp cs i).ins.isAlloc
def ordR(cs:List COp):List Nat:=(List.range cs.length).filter fun i=>!(posOp cs i).ins.isAlloc
def effs(cs:List COp):List Nat:=(ordR cs).filter fun i=>!(posOp cs i).ins.still
def eAt(cs:List COp)(q:Nat):Nat:=(((ordR cs).take q).filter fun i=>!(posOp cs i).ins.still).length
def dAll(n:Nat)(p:Nat→Bool):Bool:=(List.range n).all p
def anc(an:List (List Nat))(x j:Nat):Bool:=(an.getD j []).contains x
def loOf(an:List (List Nat))(eff:List Nat)(i:Nat):Nat:=(eff.takeWhile fun j=>anc an j i).length
def hiOf(an:List (List Nat))(eff:List Nat)(i:Nat):Nat:=(eff.takeWhile fun j=>!anc an i j).length
def afterOk(ops:List Oper):Bool:=dAll ops.length fun i=>match ops[i]? with
 |some o=>o.after.all fun e=>!Region.binds .any e||decide (e.on<i)
 |none=>true
def anOk(ops:List Oper)(an:List (List Nat)):Bool:=dAll ops.length fun j=>(an.getD j []).all fun x=>match ops[j]? with
 |some o=>o.after.any fun e=>Region.binds .any e&&(e.on==x||anc an x e.on)
 |none=>false
def slotsOk(cs:List COp)(an:List (List Nat))(od:List Nat):Bool:=dAll od.length fun p=>dAll od.length fun q=>p==q|| !(posOp cs (od.getD p 0)).clash (posOp cs (od.getD q 0))||(decide (p<q)&&anc an (od.getD p 0) (od.getD q 0))||(decide (q<p)&&anc an (od.getD q 0) (od.getD p 0))
def chainOk(an:List (List Nat))(eff:List Nat):Bool:=dAll eff.length fun y=>dAll y fun x=>anc an (eff.getD x 0) (eff.getD y 0)
def timesOk(cs:List COp)(an:List (List Nat))(eff:List Nat):Bool:=dAll (ordR cs).length fun q=>let i:=(ordR cs).getD q 0
 let lo:=loOf an eff i
 let hi:=hiOf an eff i
 decide (lo≤eAt cs q)&&decide (eAt cs q≤hi)&&decide (hi≤eff.length)&&dAll lo (fun x=>anc an (eff.getD x 0) i)&&(hi==eff.length||anc an i (eff.getD hi 0))
def drawOk(ops:List Oper)(cs:List COp)(an:List (List Nat)):Bool:=afterOk ops&&anOk ops an&&decide (ordA cs++ordR cs).Nodup&&dAll cs.length (fun i=>(ordA cs++ordR cs).contains i)&&slotsOk cs an (ordA cs++ordR cs)&&chainOk an (effs cs)&&decide (effs cs).Nodup&&timesOk cs an (effs cs)&&cs.all (fun c=>!c.ins.isAlloc||c.guard.isNone)
def EI.makes:EI→Bool
 | .alloc _ z=>z.all plain
 | .buildSl _ _ zs _=>zs.all plain
 | .append _ _ _ _=>true
 |_=>false
def madeOk(c:COp):Bool:=c.guard.isNone&&(match c.ins with
 | .pure _| .pick| .read (.load _ _)=>true
 | .eff e=>e.makes
 |_=>false)
def effN(cs:List COp):Nat:=(cs.filter fun c=>!c.ins.still).length
def drawOk2(ops:List Oper)(cs:List COp)(an:List (List Nat)):Bool:=afterOk ops&&anOk ops an&&slotsOk cs an (List.range cs.length)&&cs.all madeOk&&decide (0<effN cs)
def marks(n:Nat)(ks:List COp):List (COp×Nat×Nat):=ks.map fun c=>(c,(if c.ins.still then 0 else n+1),n)
def cDraw(gl:List Nat)(nt:Nat)(P:Program)(ops:Array Oper):Option CCode:=match cOpers gl nt P ops ops.toList with
 |some cs=>
  let an:=ancs ops.toList []
  if drawOk ops.toList cs an then some (.regD ((ordA cs).map (posOp cs)) ((ordR cs).map fun i=>(posOp cs i,loOf an (effs cs) i,hiOf an (effs cs) i)))
  else if drawOk2 ops.toList cs an then some (.regD [] (marks (effN cs) cs))
  else none
 |none=>none
def compile(gl:List Nat)(nt:Nat)(P:Program):Code→Option CCode
 | .skip=>some .skip
 | .seq a b=>match compile gl nt P a,compile gl nt P b with
   |some x,some y=>some (.seq x y)
   |_,_=>none
 | .region _ ops draw=>if draw then some ((cDraw gl nt P ops).getD .bad)else match cOpers gl nt P ops ops.toList with
   |some cs=>some (.reg cs)
   |none=>some .bad
 | .cond c a b=>match copd gl c,compile gl nt P a,compile gl nt P b with
   |some c,some x,some y=>some (.cond c x y)
   |_,_,_=>none
 | .block id c=>match compile gl nt P c with
   |some x=>some (.block id x)
   |none=>none
 | .loop c=>match compile gl nt P c with
   |some x=>some (.loop x)
   |none=>none
 | .exit id=>some (.exit id)
 | .ret=>some .ret
 |_=>some .bad
def stripOp(c:COp):COp:={c with kd:=strip0}
def strip:CCode→CCode
 | .seq a b=>.seq (strip a) (strip b)
 | .reg ops=>.reg (ops.map stripOp)
 | .regD al ops=>.regD (al.map stripOp) (ops.map fun(c,l,h)=>(stripOp c,l,h))
 | .cond c a b=>.cond c (strip a) (strip b)
 | .block id c=>.block id (strip c)
 | .loop c=>.loop (strip c)
 | .cut _ c=>strip c
 | .loopC _ c=>.loop (strip c)
 |c=>c
def cRess(P:Program):List ResultVar→Option (List CRes)
 |[]=>some []
 | .tmp t::l=>match cRess P l with
   |some r=>some (.tmp t::r)
   |none=>none
 | .cell a t::l=>match cRess P l with
   |some r=>if okElem P t then some (.cell a (P.cellsOf t) (isAggT P t)::r)else none
   |none=>none
def cFunc(gl:List Nat)(P:Program)(f:Nat)(c:CFunc):Prop:=∃fn body,P.funcs[f]?=some fn∧fn.body=some body∧compile gl fn.ntmps P body=some (strip c.body)∧cRess P fn.results.toList=some c.results∧(fn.name== "runtime.NumGoroutine")=false
def VRs(μ:Mu):List Value→List Value→Prop
 |[],[]=>True
 |a::as,b::bs=>VR μ a b∧VRs μ as bs
 |_,_=>False
theorem VRs.mono{μ μ':Mu}(hm:μ.le μ'):∀{a b:List Value},VRs μ a b→VRs μ' a b
 |[],[],_=>trivial
 |_::_,_::_,h=>⟨h.1.mono hm,VRs.mono hm h.2⟩
theorem VRs.length{μ:Mu}:∀{a b:List Value},VRs μ a b→a.length=b.length
 |[],[],_=>rfl
 |_::_,_::_,h=>by simp[VRs.length h.2]
theorem VRs.get{μ:Mu}:∀{a b:List Value},VRs μ a b→∀(i:Nat) (v:Value),a[i]?=some v→∃v',b[i]?=some v'∧VR μ v v'
 |[],[],_,i,v,h=>by simp at h
 |x::_,y::_,h,i,v,e=>by
  cases i with
  |zero=>simp at e;subst e;exact⟨y,by simp,h.1⟩
  |succ i=>simp at e;obtain⟨v',h1,h2⟩:=VRs.get h.2 i v e;exact⟨v',by simpa using h1,h2⟩
theorem VRs.of{μ:Mu}:∀{a b:List Value},a.length=b.length→(∀(i:Nat) (v v':Value),a[i]?=some v→b[i]?=some v'→VR μ v v')→VRs μ a b
 |[],[],_,_=>trivial
 |x::as,y::bs,hl,h=>⟨h 0 x y (by simp) (by simp),VRs.of (by simpa using hl) fun i v v' h1 h2=>h (i+1) v v' (by simpa using h1) (by simpa using h2)⟩
 |[],_::_,hl,_=>by simp at hl
 |_::_,[],hl,_=>by simp at hl
theorem VRs.append{μ:Mu}:∀{a b c d:List Value},VRs μ a b→VRs μ c d→VRs μ (a++c) (b++d)
 |[],[],_,_,_,h=>h
 |_::_,_::_,_,_,h,h'=>⟨h.1,VRs.append h.2 h'⟩
theorem VRs.take{μ:Mu}{a b:List Value}(h:VRs μ a b)(n:Nat):VRs μ (a.take n) (b.take n):=VRs.of (by simp[h.length]) fun i v v' h1 h2=>by
 simp only[List.getElem?_take]at h1 h2;by_cases hi:i<n
 ·rw[if_pos hi]at h1 h2;obtain⟨x,hx,hv⟩:=h.get i v h1;rw[hx]at h2;cases h2;exact hv
 ·rw[if_neg hi]at h1;cases h1
theorem VRs.drop{μ:Mu}{a b:List Value}(h:VRs μ a b)(n:Nat):VRs μ (a.drop n) (b.drop n):=VRs.of (by simp[h.length]) fun i v v' h1 h2=>by simp only[List.getElem?_drop]at h1 h2;obtain⟨x,hx,hv⟩:=h.get _ v h1;rw[hx]at h2;cases h2;exact hv
section inv
variable{μ:Mu}{v':Value}
theorem VR.int_inv{k:IntKind}{n:Int}(h:VR μ (.int k n) v'):v'=.int k n:=by cases h;rfl
theorem VR.bool_inv{b:Bool}(h:VR μ (.bool b) v'):v'=.bool b:=by cases h;rfl
theorem VR.string_inv{s:ByteArray}(h:VR μ (.string s) v'):v'=.string s:=by cases h;rfl
theorem VR.ptr_inv{a:Addr}(h:VR μ (.pointer (some a)) v'):∃a',v'=.pointer (some a')∧AR μ a a':=by cases h with|ptr h=>exact⟨_,rfl,h⟩
theorem VR.sl_inv{a:Addr}{n c:Nat}(h:VR μ (.slice (some a) n c) v'):∃a' c',v'=.slice (some a') n c'∧n≤c∧SR μ a a' n c c':=by cases h with|sl hl h=>exact⟨_,_,rfl,hl,h⟩
theorem VR.slN_inv{n c:Nat}(h:VR μ (.slice none n c) v'):n=0∧c=0∧v'=.slice none 0 0:=by cases h;exact⟨rfl,rfl,rfl⟩
theorem VR.agg_inv{c:Array Value}(h:VR μ (.agg c) v'):∃c',v'=.agg c'∧VRs μ c.toList c'.toList∧(∀v∈c.toList,one v=true):=by
 cases h with
 |agg hs h ho=>
  refine⟨_,rfl,VRs.of (by simpa using hs) fun i v v' h1 h2=>?_,fun v hv=>?_⟩
  ·simp only[Array.getElem?_toList]at h1 h2;obtain⟨h1',rfl⟩:=Array.getElem?_eq_some_iff.1 h1;obtain⟨h2',rfl⟩:=Array.getElem?_eq_some_iff.1 h2;exact h i h1' h2'
  ·obtain⟨i,hi,rfl⟩:=Array.mem_iff_getElem.1 (Array.mem_toList_iff.1 hv);exact ho i hi
theorem VR.tuple_inv{c:Array Value}(h:VR μ (.tuple c) v'):∃c',v'=.tuple c'∧VRs μ c.toList c'.toList:=by
 cases h with
 |tuple hs h=>refine⟨_,rfl,VRs.of (by simpa using hs) fun i v v' h1 h2=>?_⟩;simp only[Array.getElem?_toList]at h1 h2;obtain⟨h1',rfl⟩:=Array.getElem?_eq_some_iff.1 h1;obtain⟨h2',rfl⟩:=Array.getElem?_eq_some_iff.1 h2;exact h i h1' h2'
end inv
theorem VR.agg_of{μ:Mu}{l l':List Value}(h:VRs μ l l')(ho:∀v∈l,one v=true):VR μ (.agg l.toArray) (.agg l'.toArray):=.agg (by simpa using h.length) (fun i h1 h2=>by
 have h1':l[i]?=some l[i]:=by simp
 obtain⟨v',h3,h4⟩:=h.get i _ h1';have:v'=l'[i]:=by simpa using (List.getElem?_eq_some_iff.1 h3).2.symm
 subst this;simpa using h4) (fun i h1=>ho _ (by simp))
theorem VR.tuple_of{μ:Mu}{l l':List Value}(h:VRs μ l l'):VR μ (.tuple l.toArray) (.tuple l'.toArray):=.tuple (by simpa using h.length) (fun i h1 h2=>by
 have h1':l[i]?=some l[i]:=by simp
 obtain⟨v',h3,h4⟩:=h.get i _ h1';have:v'=l'[i]:=by simpa using (List.getElem?_eq_some_iff.1 h3).2.symm
 subst this;simpa using h4)
theorem VR.of_plain{μ:Mu}{v:Value}(h:plain v=true):VR μ v v:=by
 cases v<;>simp only[plain]at h;case bool b=>exact .bool b
 case int k n=>exact .int k n
 case string s=>exact .string s
 case pointer a=>cases a with
  |none=>exact .ptrN
  |some a=>cases h
 case slice a n c=>cases a with
  |none=>cases n<;>cases c<;>first|exact .slN|cases h
  |some a=>cases h
 case map r=>cases r with
  |none=>exact .mapN
  |some r=>cases h
 case nilFunc=>exact .nilFunc
 case nilIface=>exact .nilIface
 all_goals cases h
theorem one_of_plain{v:Value}(h:plain v=true):one v=true:=by cases v<;>simp_all [plain,one]
theorem VRs.of_plain{μ:Mu}:∀{l:List Value},l.all plain=true→VRs μ l l
 |[],_=>trivial
 |v::l,h=>by simp only[List.all_cons,Bool.and_eq_true]at h;exact⟨VR.of_plain h.1,VRs.of_plain h.2⟩
theorem VR.of_plainV{μ:Mu}{v:Value}(h:plainV v=true):VR μ v v:=by
 cases v;case agg cs=>simp only[plainV]at h;have:=VR.agg_of (μ:=μ) (VRs.of_plain h) (fun v hv=>one_of_plain (by simpa using List.all_eq_true.1 h v hv));simpa using this
 all_goals exact VR.of_plain h
section casts
variable{v:Value}{γ:Type}{r:γ}
theorem asI_some{k:IntKind}{K:Int→Option γ}(h:asI k v K=some r):∃n,v=.int k n∧K n=some r:=by
 unfold asI at h;split at h
 ·split at h
  ·rename_i hk;subst hk;exact⟨_,rfl,h⟩
  ·cases h
 ·cases h
theorem asB_some{K:Bool→Option γ}(h:asB v K=some r):∃b,v=.bool b∧K b=some r:=by unfold asB at h;split at h<;>first|exact⟨_,rfl,h⟩|cases h
theorem asS_some{K:ByteArray→Option γ}(h:asS v K=some r):∃b,v=.string b∧K b=some r:=by unfold asS at h;split at h<;>first|exact⟨_,rfl,h⟩|cases h
theorem asP_some{K:Option Addr→Option γ}(h:asP v K=some r):∃b,v=.pointer b∧K b=some r:=by unfold asP at h;split at h<;>first|exact⟨_,rfl,h⟩|cases h
theorem asSl_some{K:Option Addr→Nat→Nat→Option γ}(h:asSl v K=some r):∃a n c,v=.slice a n c∧K a n c=some r:=by unfold asSl at h;split at h<;>first|exact⟨_,_,_,rfl,h⟩|cases h
theorem asM_some{K:Option Nat→Option γ}(h:asM v K=some r):∃b,v=.map b∧K b=some r:=by unfold asM at h;split at h<;>first|exact⟨_,rfl,h⟩|cases h
theorem asA_some{K:Array Value→Option γ}(h:asA v K=some r):∃b,v=.agg b∧K b=some r:=by unfold asA at h;split at h<;>first|exact⟨_,rfl,h⟩|cases h
theorem asN_some{K:Int→Option γ}(h:asN v K=some r):∃k n,v=.int k n∧K n=some r:=by unfold asN at h;split at h<;>first|exact⟨_,_,rfl,h⟩|cases h
theorem optK_some{α:Type}{o:Option α}{K:α→Option γ}(h:optK o K=some r):∃x,o=some x∧K x=some r:=by unfold optK at h;split at h<;>first|exact⟨_,rfl,h⟩|cases h
theorem chk_some{b:Bool}{x:Option γ}(h:chk b x=some r):b=true∧x=some r:=by unfold chk at h;split at h<;>first|exact⟨rfl,h⟩|cases h
end casts
section casts2
variable{v:Value}{r:Value×Heap}
theorem cast0_some{d:Kd0}{K:Value→Res}(h:cast0 d v K=some r):K v=some r:=by
 unfold cast0 at h;split at h
 ·exact h
 ·obtain⟨n,rfl,h2⟩:=asI_some h;exact h2
 ·obtain⟨n,rfl,h2⟩:=asB_some h;exact h2
 ·obtain⟨n,rfl,h2⟩:=asS_some h;exact h2
 ·obtain⟨n,rfl,h2⟩:=asP_some h;exact h2
 ·obtain⟨_,_,_,rfl,h2⟩:=asSl_some h;exact h2
 ·obtain⟨n,rfl,h2⟩:=asM_some h;exact h2
 ·obtain⟨n,rfl,h2⟩:=asA_some h;exact h2
theorem castL_some:∀{ds:List Kd0} {vs:List Value} {K:List Value→Res},castL ds vs K=some r→K vs=some r
 |[],[],_,h=>h
 |d::ds,v::vs,K,h=>by simp only[castL]at h;have h2:=cast0_some h;exact castL_some (K:=fun l=>K (v::l)) h2
 |[],_::_,_,h=>by simp[castL]at h
 |_::_,[],_,h=>by simp[castL]at h
theorem cast_some{d:Kd}{K:Value→Res}(h:cast d v K=some r):K v=some r:=by
 unfold cast at h;split at h
 ·exact cast0_some h
 ·split at h
  ·exact castL_some h
  ·cases h
end casts2
def PureOK(P:Program)(o:Oper)(p:PI)(xs:List Operand):Prop:=∀(μ:Mu) (ρ:Operand→Value) (vs:List Value) (w:World) (K:Value→Res) (r:Value×Heap),(∀v,ρ (.const v)=v)→VRs μ vs (xs.map ρ)→pureK p vs K=some r→∃v v',K v=some r∧(execOp ρ o).run P w=.ok (.value v') w∧VR μ v v'
theorem VRs.inv1{μ:Mu}{vs:List Value}{a:Value}(h:VRs μ vs [a]):∃x,vs=[x]∧VR μ x a:=by
 match vs,h with
 |[x],h=>exact⟨x,rfl,h.1⟩
theorem VRs.inv2{μ:Mu}{vs:List Value}{a b:Value}(h:VRs μ vs [a,b]):∃x y,vs=[x,y]∧VR μ x a∧VR μ y b:=by
 match vs,h with
 |[x,y],h=>exact⟨x,y,rfl,h.1,h.2.1⟩
end Go.Cm
