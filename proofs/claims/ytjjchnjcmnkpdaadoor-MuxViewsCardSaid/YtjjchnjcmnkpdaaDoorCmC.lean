/-
  The clean machine's instructions that read memory do what the model's operations do.
-/
import Derived.Test.YtjjchnjcmnkpdaaDoorCmB
import Derived.Lib.Builder
import Derived.MapKept
namespace Go.Cm
open Go
section
variable{P:Program}{w0:Start}{μ:Mu}{H:Heap}{w:World}
theorem rowAt_self{fits:TypeId→Bool}{d:Nat}{e:TypeId}(h1:0<P.cellsOf e)(hf:fits e=true):rowAt P fits (d+1) e 1 0 1=true:=by
 have:P.cellsOf e≠0:=by omega
 simp[rowAt,this,hf]
theorem liesAt_self{e:TypeId}(h1:0<P.cellsOf e):liesAt P P.depth e (P.cellsOf e/P.cellsOf e) 0 e 1=true:=by
 have hd:P.depth=(2*(P.types.size+Made.depth)+1)+1:=rfl;have hs:sameLayout P P.depth e e=true:=by rw[hd];unfold sameLayout;simp
 have hr:rowAt P (sameLayout P P.depth · e) P.depth e 1 0 1=true:=by
  conv=>lhs;arg 3;rw[hd]
  exact rowAt_self h1 hs
 rw[Nat.div_self h1];conv=>lhs;arg 2;rw[hd]
 unfold liesAt;rw[hr];rfl
theorem lookup_cells(R:RR P w0 μ H w){b:Nat}{m:MB}{c:List Value}{e:TypeId}{o:Bool}{fz:Nat}{s:Bool}(hm:μ b=some m)(hg:H.get b=some (.cells c e o fz s)):∃c' fr,w.heap[m.blk]?=some (.cells c' e fr)∧OR P μ m (.cells c e o fz s) (.cells c' e fr):=by
 obtain⟨o',h1,h2⟩:=R.obj b m _ hm hg;cases o'<;>simp only[OR]at h2;have:=h2.1;subst this;exact⟨_,_,h1,h2⟩
theorem cell_ok(R:RR P w0 μ H w){a a':Addr}{v:Value}(ha:AR μ a a')(h:H.ld1 a=some v):∃v',w.cell? a'=some v'∧VR μ v v'∧one v=true:=by
 obtain⟨h1,h2,m,h3,h4,h5⟩:=ha;unfold Heap.ld1 at h;split at h
 ·rename_i c e o fz s hg;obtain⟨c',fr,g1,g2⟩:=lookup_cells R h3 hg;obtain⟨_,_,_,_,_,_,_,g3,_⟩:=g2;obtain⟨o1,v',e1,e2⟩:=g3 _ _ h;refine⟨v',?_,e2,o1⟩;unfold World.cell?;rw[h4,g1];simp only[h2,Option.isSome_none,Bool.false_eq_true,if_false,h5];exact e1
 ·cases h
theorem cells_ok(R:RR P w0 μ H w){a a':Addr}{n:Nat}{l:List Value}(ha:AR μ a a')(h:H.ldN a n=some l):∃l',VRs μ l l'∧(∀v∈l,one v=true)∧l.length=n∧∀k v',l'[k]?=some v'→w.cell? (a'.add k)=some v':=by
 obtain⟨h1,h2,m,h3,h4,h5⟩:=ha;unfold Heap.ldN at h;split at h
 ·rename_i c e o fz s hg;split at h
  ·rename_i hlen;simp only[Option.some.injEq]at h;subst h;obtain⟨c',fr,g1,g2⟩:=lookup_cells R h3 hg;obtain⟨_,⟨gl,_⟩,_,_,gs,gi,_,g3,_⟩:=g2;refine⟨((c'.toList.drop (a.off+m.sh)).take n),VRs.of ?_ ?_,?_,by simp;omega,?_⟩
   ·simp only[List.length_take,List.length_drop,Array.length_toList,gs];omega
   ·intro i v v' e1 e2;simp only[List.getElem?_take,List.getElem?_drop]at e1 e2;by_cases hi:i<n
    ·rw[if_pos hi]at e1 e2;obtain⟨_,v2,e3,e4⟩:=g3 _ _ e1;rw[Array.getElem?_toList]at e2;have:a.off+i+m.sh=a.off+m.sh+i:=by omega
     rw[this,e2]at e3;cases e3;exact e4
    ·rw[if_neg hi]at e1;cases e1
   ·intro v hv;obtain⟨i,hi,rfl⟩:=List.mem_iff_getElem.1 (List.mem_of_mem_drop (List.mem_of_mem_take hv));exact(g3 i _ (List.getElem?_eq_getElem hi)).1
   ·intro k v' hk;simp only[List.getElem?_take,List.getElem?_drop,Array.getElem?_toList]at hk;split at hk
    ·rw[ap_eq h2];unfold World.cell?;simp only[ap,h4,g1,Option.isSome_none,Bool.false_eq_true,if_false,h5];exact hk
    ·cases hk
  ·cases h
 ·cases h
theorem run_loadCells:∀(n i:Nat) (a:Addr) (l':List Value) (acc:Array Value) (w:World),l'.length=n→(∀k v',l'[k]?=some v'→w.cell? (a.add (i+k))=some v')→
  (loadCellsFrom a i n acc).run P w=.ok (acc++l'.toArray) w
 |0,i,a,l',acc,w,hl,_=>by have:l'=[]:=List.length_eq_zero_iff.1 hl;subst this;simp[loadCellsFrom]
 |n+1,i,a,[],acc,w,hl,_=>by simp at hl
 |n+1,i,a,v::l',acc,w,hl,h=>by
  have h0:=h 0 v (by simp);simp only[Nat.add_zero]at h0;simp only[loadCellsFrom,Sem.run_bind,run_load,h0,Result.andThen_ok];rw[run_loadCells n (i+1) a l' (acc.push v) w (by simpa using hl) (fun k v' hk=>by have:=h (k+1) v' (by simpa using hk);rw[show i+1+k=i+(k+1)by omega];exact this)];simp
theorem loadCells_ok(R:RR P w0 μ H w){a a':Addr}{n:Nat}{l:List Value}(ha:AR μ a a')(h:H.ldN a n=some l):∃l',VRs μ l l'∧(∀v∈l,one v=true)∧(loadCells a' n).run P w=.ok l'.toArray w:=by
 obtain⟨l',h1,h2,h3,h4⟩:=cells_ok R ha h;refine⟨l',h1,h2,?_⟩;have:=run_loadCells (P:=P) n 0 a' l' #[] w (by rw[←h1.length,h3]) (fun k v' hk=>by simpa using h4 k v' hk);simpa[loadCells]using this
theorem loadVar_ok(R:RR P w0 μ H w){t:TypeId}(ht:okElem P t=true){a a':Addr}{v:Value}(ha:AR μ a a')(h:readD (.load (P.cellsOf t) (isAggT P t)) [.pointer (some a)] H=some v):∃v',(loadVar t a').run P w=.ok v' w∧VR μ v v':=by
 simp only[readD]at h;unfold loadVar;simp only[Sem.run_bind,run_isAgg ht,Result.andThen_ok];by_cases hA:isAggT P t=true
 ·simp only[hA,if_true]at h⊢;split at h
  ·rename_i l hl;simp only[Option.some.injEq]at h;subst h;obtain⟨l',h1,h2,h3⟩:=loadCells_ok R ha hl;refine⟨.agg l'.toArray,?_,VR.agg_of h1 h2⟩;simp only[Sem.run_bind,run_sizeOf' (info_some ht),Result.andThen_ok,h3,Sem.run_pure]
  ·cases h
 ·simp only[hA]at h⊢;obtain⟨v',h1,h2,_⟩:=cell_ok R ha (by simpa using h);exact⟨v',by simp[h1],h2⟩
def ReadOK(P:Program)(o:Oper)(ri:RI)(xs:List Operand):Prop:=∀(w0:Start) (μ:Mu) (H:Heap) (w:World) (ρ:Operand→Value) (vs:List Value) (v:Value),RR P w0 μ H w→(∀v,ρ (.const v)=v)→VRs μ vs (xs.map ρ)→readD ri vs H=some v→∃v',(execOp ρ o).run P w=.ok (.value v') w∧VR μ v v'
theorem bytes_loop{f:Value→ByteArray→Sem (ForInStep ByteArray)}(hf:∀n s,f (.int .u8 n) s=pure (.yield (s.push (UInt8.ofNat n.toNat)))){w:World}:
  ∀(l l':List Value) (r:List UInt8) (s:ByteArray),VRs μ l l'→bytesOf l=some r→(forIn l' s f:Sem ByteArray).run P w=.ok (S (lst s++r)) w
 |[],[],r,s,_,h=>by simp only[bytesOf,Option.some.injEq]at h;subst h;simp
 |v::l,v'::l',r,s,hv,h=>by
  unfold bytesOf at h;split at h
  ·rename_i h0;cases h0
  ·rename_i heq;simp only[List.cons.injEq]at heq;obtain⟨rfl,rfl⟩:=heq;split at h
   ·rename_i r' hr;simp only[Option.some.injEq]at h;subst h;rw[hv.1.int_inv,List.forIn_cons,hf];simp only[Sem.run_bind,Sem.run_pure,Result.andThen_ok];rw[bytes_loop hf l l' r' _ hv.2 hr]
    congr 1
    simp[lst]
   ·cases h
  ·cases h
theorem runes_loop{f:Value→ByteArray→Sem (ForInStep ByteArray)}(hf:∀n s,f (.int .i32 n) s=pure (.yield (s++Utf8.encode n))){w:World}:
  ∀(l l':List Value) (r:List UInt8) (s:ByteArray),VRs μ l l'→runesOf l=some r→(forIn l' s f:Sem ByteArray).run P w=.ok (S (lst s++r)) w
 |[],[],r,s,_,h=>by simp only[runesOf,Option.some.injEq]at h;subst h;simp
 |v::l,v'::l',r,s,hv,h=>by
  unfold runesOf at h;split at h
  ·rename_i h0;cases h0
  ·rename_i heq;simp only[List.cons.injEq]at heq;obtain⟨rfl,rfl⟩:=heq;split at h
   ·rename_i r' hr;simp only[Option.some.injEq]at h;subst h;rw[hv.1.int_inv,List.forIn_cons,hf];simp only[Sem.run_bind,Sem.run_pure,Result.andThen_ok];rw[runes_loop hf l l' r' _ hv.2 hr,←sCat_eq]
    congr 1
    simp[lst,sCat,S]
   ·cases h
  ·cases h
theorem slice_ok(R:RR P w0 μ H w){a a':Addr}{n c c':Nat}{l:List Value}(ha:SR μ a a' n c c')(h:H.ldN a n=some l):∃l',VRs μ l l'∧(∀v∈l,one v=true)∧(loadCells a' n).run P w=.ok l'.toArray w:=by
 by_cases hn:n=0
 ·subst hn;refine⟨[],?_,?_,rfl⟩<;>(unfold Heap.ldN at h;split at h<;>first|(cases h;done)|(split at h<;>first|(cases h;done)|(simp at h;subst h;simp[VRs])))
 ·exact loadCells_ok R (ha.base (by omega)) h
theorem shape_ok(R:RR P w0 μ H w){a a':Addr}(ha:AR μ a a')(h:H.clear a.block=true):(∃e n,w.shape? a'.block=some (e,n)∧n≠0∧w.frozen? a'=false∧w.frozen? ⟨a'.block,n,none⟩=false):=by
 obtain⟨h1,h2,m,h3,h4,h5⟩:=ha;unfold Heap.clear at h;split at h
 ·rename_i c e o fz s hg;simp only[Bool.and_eq_true,Bool.not_eq_true',beq_iff_eq]at h;obtain⟨⟨h6,h7⟩,h8⟩:=h;obtain⟨c',fr,g1,g2⟩:=lookup_cells R h3 hg;obtain⟨_,⟨gl,_⟩,_,_,gs,gi,_,g3,g4,g5⟩:=g2;have hlen:c.length≠0:=by intro hc;rw[List.length_eq_zero_iff]at hc;simp[hc]at h6
  refine⟨e,c'.size,?_,by omega,?_,?_⟩
  ·unfold World.shape?;rw[h4,g1]
  ·unfold World.frozen?;rw[h4,g1];simp only;have:=g5 h8;simp only[Bool.and_eq_false_iff,decide_eq_false_iff_not];omega
  ·unfold World.frozen?;simp only[h4,g1];have:=g5 h8;simp only[Bool.and_eq_false_iff,decide_eq_false_iff_not];omega
 ·cases h
theorem run_sameAddr(R:RR P w0 μ H w){a a' b b':Addr}(ha:AR μ a a')(hb:AR μ b b')(h:(if a.block=b.block then H.alive a.block else H.clear a.block&&H.clear b.block)=true):(sameAddr a' b').run P w=.ok (decide (a.block=b.block∧a.off=b.off)) w:=by
 by_cases e:a.block=b.block
 ·rw[if_pos e]at h;obtain⟨h1,h2,m,h3,h4,h5⟩:=ha;obtain⟨k1,k2,m2,k3,k4,k5⟩:=hb;rw[e,k3]at h3;cases h3;unfold sameAddr;rw[if_pos (by rw[h4,k4];simp)];simp only[Sem.run_pure]
  congr 1
  obtain⟨ab,ao,as⟩:=a';obtain⟨bb,bo,bs⟩:=b';simp only at*;subst h2 k2 h4;subst k4;rw[Bool.eq_iff_iff];simp only[beq_iff_eq,Addr.mk.injEq,decide_eq_true_eq,and_true,true_and,e];omega
 ·rw[if_neg e]at h;simp only[Bool.and_eq_true]at h;obtain⟨e1,n1,s1,s2,s3,s4⟩:=shape_ok R ha h.1;obtain⟨e2,n2,t1,t2,t3,t4⟩:=shape_ok R hb h.2;have hne:a'.block≠b'.block:=by
   intro hc;obtain⟨_,_,m,h3,h4,_⟩:=ha;obtain⟨_,_,m2,k3,k4,_⟩:=hb;have al:∀{x:Nat},H.clear x=true→∃o,H.get x=some o:=by
    intro x hx;unfold Heap.clear at hx;split at hx
    ·rename_i hg;exact⟨_,hg⟩
    ·cases hx
   obtain⟨o1,g1⟩:=al h.1;obtain⟨o2,g2⟩:=al h.2;have nw:∀{x:Nat} {o:CObj},H.clear x=true→H.get x=some o→∀c e,o≠ .cells c e false c.length true:=by intro x o hx hg c e ho;subst ho;unfold Heap.clear at hx;rw[hg]at hx;simp at hx
   exact e (R.inj' h3 k3 g1 g2 (by rw[←h4,←k4,hc]) (R.own k3 g2 (nw h.2 g2)))
  unfold sameAddr;rw[if_neg (by simpa using hne)];have:decide (a.block=b.block∧a.off=b.off)=false:=by simp[e]
  rw[this];simp[s3,t3,noView,viewAt,s1,t1,mayBeOne,stringish,s4,t4]
theorem convBytes_ok{s d e:TypeId}{x:Value}(e1:P.underlying s=some (.slice e))(e2:P.underlying d=some .string)(e3:P.underlying e=some (.int .u8))(hx:∀b,x≠ .string b)(hi:∀k b,x≠ .int k b):(convert s d x).run P w=(Conv.bytesToString x).run P w:=by
 simp only[convert,Sem.run_bind,run_underlying e1,run_underlying e2,Result.andThen_ok];cases x<;>simp_all [run_underlying e3]
theorem convRunes_ok{s d e:TypeId}{x:Value}(e1:P.underlying s=some (.slice e))(e2:P.underlying d=some .string)(e3:P.underlying e=some (.int .i32))(hx:∀b,x≠ .string b)(hi:∀k b,x≠ .int k b):(convert s d x).run P w=(Conv.runesToString x).run P w:=by
 simp only[convert,Sem.run_bind,run_underlying e1,run_underlying e2,Result.andThen_ok];cases x<;>simp_all [run_underlying e3]
theorem subSl_ok(R:RR P w0 μ H w){elem:TypeId}{a a':Addr}{n c c':Nat}(hn:n≤c)(ha:SR μ a a' n c c'){l h m:Nat}{mx:Bool}(h1:l≤h)(h2:h≤m)(h3:m≤c)(h4:mx=false→m=c)(hk:(l==0||mx||H.opnOk a.block elem)=true):
  VR μ (.slice (some (if l=0 then a else ap a (l*P.cellsOf elem))) (h-l) (m-l)) (.slice (some (if(if mx=true then m else c')=l then a' else a'.add (l*P.cellsOf elem))) (h-l) ((if mx=true then m else c')-l)):=by
 rcases ha with ⟨e1,e2,mb,e3,e4,e5⟩|⟨rfl,rfl,rfl,rfl⟩;rotate_left
 ·obtain rfl:m=0:=by omega
  obtain rfl:h=0:=by omega
  obtain rfl:l=0:=by omega
  refine .sl (by omega) (.inr ⟨rfl,rfl,rfl,by cases mx<;>rfl⟩)
 have hc:c≤c':=by omega
 have e0:(if l=0 then a else ap a (l*P.cellsOf elem))=ap a (l*P.cellsOf elem):=by
  split
  ·rename_i h0;subst h0;obtain⟨ab,ao,as⟩:=a;simp only at e1;subst e1;simp[ap]
  ·rfl
 rw[e0];refine .sl (by omega) (.inl ?_);cases mx with
 |true=>
  simp only[if_true];by_cases hml:m=l
  ·rw[if_pos hml];exact⟨rfl,e2,mb,e3,e4,.inr (.inr ⟨by omega,by omega,.inl (by omega)⟩)⟩
  ·rw[if_neg hml,ap_eq e2];exact⟨rfl,rfl,mb,e3,e4,.inl ⟨by simp only[ap];omega,rfl⟩⟩
 |false=>
  simp only[Bool.false_eq_true,if_false];have hm:=h4 rfl;subst hm;rcases e5 with ⟨f1,f2⟩|⟨f1,f2,f3,f4,f5⟩|⟨f1,f2,f3⟩
  ·subst f2;by_cases hml:c'=l
   ·rw[if_pos hml];exact⟨rfl,e2,mb,e3,e4,.inr (.inr ⟨by omega,by omega,.inl (by omega)⟩)⟩
   ·rw[if_neg hml,ap_eq e2];exact⟨rfl,rfl,mb,e3,e4,.inl ⟨by simp only[ap];omega,rfl⟩⟩
  ·by_cases hml:c'=l
   ·rw[if_pos hml];exact⟨rfl,e2,mb,e3,e4,.inr (.inr ⟨by omega,by omega,.inl (by omega)⟩)⟩
   ·rw[if_neg hml,ap_eq e2];by_cases hl:l=0
    ·subst hl;refine⟨rfl,rfl,mb,e3,e4,.inr (.inl ⟨f1,by simp only[ap];omega,by omega,?_,?_⟩)⟩
     ·simpa[ap]using f4
     ·simpa[ap]using f5
    ·have hop:H.opnOk a.block elem=true:=by simpa[hl]using hk
     unfold Heap.opnOk at hop;split at hop
     ·rename_i cl e o fz s hg;obtain⟨cr,fr,g1,g2⟩:=lookup_cells R e3 hg;obtain⟨_,⟨gl,_⟩,go,ge,_⟩:=g2;rw[f1]at go;subst go;simp only[Bool.not_true,Bool.false_or,beq_iff_eq]at hop;subst hop;refine⟨rfl,rfl,mb,e3,e4,.inr (.inl ⟨f1,by simp only[ap];omega,by omega,?_,?_⟩)⟩
      ·simp only[ap];rw[←ge];have:(m-l)*mb.esz=m*mb.esz-l*mb.esz:=Nat.sub_mul _ _ _;have h5:l*mb.esz≤m*mb.esz:=Nat.mul_le_mul_right _ (by omega);omega
      ·simp only[ap];rw[←ge];have:(c'-l)*mb.esz=c'*mb.esz-l*mb.esz:=Nat.sub_mul _ _ _;have h5:l*mb.esz≤c'*mb.esz:=Nat.mul_le_mul_right _ (by omega);omega
     ·cases hop
  ·subst f1 f2;have hl:l=0:=by omega
   have hh:h=0:=by omega
   subst hl hh;have e6:(if c'=0 then a' else a'.add (0*P.cellsOf elem))=a':=by
    split
    ·rfl
    ·simp[Addr.add]
   rw[e6];exact⟨rfl,e2,mb,e3,e4,.inr (.inr ⟨rfl,rfl,by simpa using f3⟩)⟩
theorem VR.ptrN_inv{v':Value}(h:VR μ (.pointer none) v'):v'=.pointer none:=by cases h;rfl
theorem equal_ptr(dd:Nat){t e:TypeId}(ht:P.underlying t=some (.pointer e))(hok:okElem P e=true)(hn:P.cellsOf e≠0):(∀b:Option Addr,(Op.equalIn (dd+1) t (.pointer none) (.pointer b)).run P w=.ok b.isNone w)∧(∀a:Addr,(Op.equalIn (dd+1) t (.pointer (some a)) (.pointer none)).run P w=.ok false w)∧(∀a b:Addr,(Op.equalIn (dd+1) t (.pointer (some a)) (.pointer (some b))).run P w=(sameAddr a b).run P w):=by
 refine⟨fun b=>?_,fun a=>?_,fun a b=>?_⟩
 ·simp only[Op.equalIn,Sem.run_bind,run_underlying ht,Result.andThen_ok,Sem.run_pure]
 ·simp only[Op.equalIn,Sem.run_bind,run_underlying ht,Result.andThen_ok,Sem.run_pure]
 ·simp only[Op.equalIn,Sem.run_bind,run_underlying ht,Result.andThen_ok,run_sizeOf' (info_some hok)];rw[if_pos hn]
theorem read_bin{dst:Option Tmp}{type:TypeId}{pos:String}{after:Array Edge}{guard:Option (Nat×Bool)}{op:BinOp}{t yt:TypeId}{x y:Operand}{ri:RI}{xs:List Operand}(hc:cOp P ⟨dst,.binOp op t x y yt,type,pos,after,guard⟩=some (.read ri,xs)):ReadOK P ⟨dst,.binOp op t x y yt,type,pos,after,guard⟩ ri xs:=by
 intro w0 μ H w ρ vs v R hρ hv h;simp only[cOp]at hc;have key:∃e neg,P.underlying t=some (.pointer e)∧okElem P e=true∧P.cellsOf e≠0∧ri=.eqP neg∧xs=[x,y]∧(op=.eql∧neg=false∨op=.neq∧neg=true):=by
  unfold cBin at hc;split at hc
  ·split at hc<;>cases hc
  ·split at hc<;>cases hc
  ·rename_i d _ _ e;have:∀{op:BinOp},cEq P op t d x y=some (.read ri,xs)→∃el,d=.pointer el∧okElem P el=true∧P.cellsOf el≠0∧ri=.eqP (op== .neq)∧xs=[x,y]:=by
    intro op hc;unfold cEq at hc;split at hc
    ·split at hc
     ·cases hc
     ·split at hc
      ·cases hc
      ·cases d with
       |pointer el=>
        simp only at hc;split at hc
        ·rename_i hk;simp only[Option.some.injEq,Prod.mk.injEq,CIns.read.injEq]at hc;exact⟨el,rfl,hk.1,hk.2,hc.1.symm,hc.2.symm⟩
        ·cases hc
       |_=>cases hc
    ·split at hc
     ·cases hc
     ·split at hc<;>(try split at hc)<;>cases hc
     ·split at hc<;>(try split at hc)<;>cases hc
     ·cases hc
   split at hc
   ·obtain⟨el,rfl,a,b,rfl,rfl⟩:=this hc;exact⟨el,_,e,a,b,rfl,rfl,.inl ⟨rfl,rfl⟩⟩
   ·obtain⟨el,rfl,a,b,rfl,rfl⟩:=this hc;exact⟨el,_,e,a,b,rfl,rfl,.inr ⟨rfl,rfl⟩⟩
   ·cases hc
  ·cases hc
 obtain⟨el,neg,e,hok,hn,rfl,rfl,hop⟩:=key;obtain⟨u,z,rfl,hu,hu2⟩:=VRs.inv2 hv
 match u,z,hu,hu2,h with
 | .pointer a,.pointer b,hu,hu2,h=>
   have done:∀{q:Bool} {u' z':Value},ρ x=u'→ρ y=z'→(∃a,u'=.pointer a)→(∃b,z'=.pointer b)→v=.bool (if neg then !q else q)→(Op.equalIn (9999+1) t u' z').run P w=.ok q w→∃v',(execOp ρ ⟨dst,.binOp op t x y yt,type,pos,after,guard⟩).run P w=.ok (.value v') w∧VR μ v v':=by
    intro q u' z' e1 e2 ⟨a,ha⟩ ⟨b,hb⟩ e3 e4;subst e3;refine⟨_,run_v (s:=binS op t x y (ρ x) (ρ y)) (eqOp_run (hop.imp (·.1) (·.1)) (guard_at ?_ (.inl ?_)) ?_ ?_ ?_ ?_ (by rw[e1,e2];exact e4)),?_⟩
    ·rw[e1,ha];intro c hc;cases hc
    ·rw[e1,ha];intro hc;cases hc
    ·rw[e1,ha];rintro k1 a k2 b ⟨h1,h2⟩;cases h1
    ·rw[e1,ha];rintro a b ⟨h1,h2⟩;cases h1
    ·rw[e1,ha];rintro k1 a k2 b ⟨h1,h2⟩;cases h1
    ·rw[e1,ha];rintro k1 a1 a2 k2 b1 b2 ⟨h1,h2⟩;cases h1
    ·rcases hop with ⟨rfl,rfl⟩|⟨rfl,rfl⟩<;>exact .bool _
   have eqs:=equal_ptr (P:=P) (w:=w) 9999 e hok hn;cases a with
   |none=>
    simp only[readD,Option.some.injEq]at h;have e1:ρ x=.pointer none:=hu.ptrN_inv;cases b with
    |none=>exact done e1 hu2.ptrN_inv ⟨_,rfl⟩ ⟨_,rfl⟩ h.symm (eqs.1 none)
    |some b=>obtain⟨b',e2,hb⟩:=hu2.ptr_inv;exact done e1 e2 ⟨_,rfl⟩ ⟨_,rfl⟩ h.symm (eqs.1 (some b'))
   |some a=>
    obtain⟨a',e1,ha⟩:=hu.ptr_inv;cases b with
    |none=>simp only[readD,Option.some.injEq]at h;exact done (q:=false) e1 hu2.ptrN_inv ⟨_,rfl⟩ ⟨_,rfl⟩ (by rw[←h];cases neg<;>rfl) (eqs.2.1 a')
    |some b=>obtain⟨b',e2,hb⟩:=hu2.ptr_inv;simp only[readD]at h;obtain⟨h1,h2⟩:=chk_some h;simp only[Option.some.injEq]at h2;refine done e1 e2 ⟨_,rfl⟩ ⟨_,rfl⟩ h2.symm ?_;rw[eqs.2.2];exact run_sameAddr R ha hb h1
theorem read_conv{dst:Option Tmp}{type:TypeId}{pos:String}{after:Array Edge}{guard:Option (Nat×Bool)}{s d:TypeId}{x:Operand}{ri:RI}{xs:List Operand}(hc:cOp P ⟨dst,.convert s d x,type,pos,after,guard⟩=some (.read ri,xs)):ReadOK P ⟨dst,.convert s d x,type,pos,after,guard⟩ ri xs:=by
 intro w0 μ H w ρ vs v R hρ hv h;simp only[cOp]at hc;unfold cConv at hc;split at hc;case isTrue=>cases hc
 unfold cConv0 at hc;split at hc
 ·cases hc
 ·cases hc
 ·cases hc
 ·split at hc<;>(try split at hc)<;>cases hc
 ·rename_i el e1 e2;split at hc
  ·rename_i e3;simp only[Option.some.injEq,Prod.mk.injEq,CIns.read.injEq]at hc;obtain⟨rfl,rfl⟩:=hc;obtain⟨u,rfl,hu⟩:=VRs.inv1 hv
   match u,hu,h with
   | .slice none n c,hu,h=>obtain⟨rfl,rfl,e'⟩:=hu.slN_inv;simp only[readD,Option.some.injEq]at h;subst h;refine⟨_,run_v ?_,.string _⟩;rw[e',convBytes_ok e1 e2 e3 (fun b h=>by cases h) (fun k b h=>by cases h)];rfl
   | .slice (some a) n c,hu,h=>
     obtain⟨a',c',e',hl,ha⟩:=hu.sl_inv;simp only[readD]at h;split at h
     ·rename_i h0;subst h0;simp only[Option.some.injEq]at h;subst h;refine⟨_,run_v ?_,.string _⟩;rw[e',convBytes_ok e1 e2 e3 (fun b h=>by cases h) (fun k b h=>by cases h)];rfl
     split at h
     ·rename_i l hl;split at h
      ·rename_i r hr;simp only[Option.some.injEq]at h;subst h;obtain⟨l',h1,h2,h3⟩:=slice_ok R ha hl;refine⟨_,run_v ?_,.string _⟩;rw[e',convBytes_ok e1 e2 e3 (fun b h=>by cases h) (fun k b h=>by cases h)];simp only[Conv.bytesToString,Sem.run_bind,h3,Result.andThen_ok,List.forIn_toArray];rw[bytes_loop (fun n s=>rfl) l l' r _ h1 hr];simp only[Result.andThen_ok,Sem.run_pure]
       congr 2
      ·cases h
     ·cases h
  ·rename_i e3;simp only[Option.some.injEq,Prod.mk.injEq,CIns.read.injEq]at hc;obtain⟨rfl,rfl⟩:=hc;obtain⟨u,rfl,hu⟩:=VRs.inv1 hv
   match u,hu,h with
   | .slice none n c,hu,h=>obtain⟨rfl,rfl,e'⟩:=hu.slN_inv;simp only[readD,Option.some.injEq]at h;subst h;refine⟨_,run_v ?_,.string _⟩;rw[e',convRunes_ok e1 e2 e3 (fun b h=>by cases h) (fun k b h=>by cases h)];rfl
   | .slice (some a) n c,hu,h=>
     obtain⟨a',c',e',hl,ha⟩:=hu.sl_inv;simp only[readD]at h;split at h
     ·rename_i h0;subst h0;simp only[Option.some.injEq]at h;subst h;refine⟨_,run_v ?_,.string _⟩;rw[e',convRunes_ok e1 e2 e3 (fun b h=>by cases h) (fun k b h=>by cases h)];rfl
     split at h
     ·rename_i l hl;split at h
      ·rename_i r hr;simp only[Option.some.injEq]at h;subst h;obtain⟨l',h1,h2,h3⟩:=slice_ok R ha hl;refine⟨_,run_v ?_,.string _⟩;rw[e',convRunes_ok e1 e2 e3 (fun b h=>by cases h) (fun k b h=>by cases h)];simp only[Conv.runesToString,Sem.run_bind,h3,Result.andThen_ok,List.forIn_toArray];rw[runes_loop (fun n s=>rfl) l l' r _ h1 hr];simp only[Result.andThen_ok,Sem.run_pure]
       congr 2
      ·cases h
     ·cases h
  ·cases hc
 ·rename_i t e1 e2;split at hc
  ·rename_i j hj;split at hc
   ·rename_i hz;simp only[Option.some.injEq,Prod.mk.injEq,CIns.read.injEq]at hc;obtain⟨rfl,rfl⟩:=hc;obtain⟨u,rfl,hu⟩:=VRs.inv1 hv
    match u,hu,h with
    | .pointer none,hu,h=>simp only[readD,Option.some.injEq]at h;subst h;refine⟨.pointer none,run_v ?_,.ptrN⟩;rw[hu.ptrN_inv];simp[convert,run_underlying e1,run_underlying e2,Conv.unsafePointer]
    | .pointer (some a),hu,h=>
      obtain⟨a',e',ha⟩:=hu.ptr_inv;simp only[readD]at h;split at h
      ·rename_i c e o fz st hg;split at h
       ·rename_i hlt;simp only[Option.some.injEq]at h;subst h;refine⟨.pointer (some a'),run_v ?_,.ptr ha⟩;rw[e'];obtain⟨h1,h2,m,h3,h4,h5⟩:=ha;obtain⟨c',fr,g1,g2⟩:=lookup_cells R h3 hg;obtain⟨_,⟨gl,_⟩,_,_,gs,gi,_⟩:=g2;have hs:w.shape? a'.block=some (e,c'.size):=by unfold World.shape?;rw[h4,g1]
        exact Lib.run_to_unsafe w a' e1 e2 hj hz hs (by omega)
       ·cases h
      ·cases h
   ·cases hc
  ·cases hc
 ·rename_i u e1 e2;split at hc
  ·rename_i hz;obtain⟨j,hj⟩:=Option.isSome_iff_exists.1 hz.1;simp only[Option.some.injEq,Prod.mk.injEq,CIns.read.injEq]at hc;obtain⟨rfl,rfl⟩:=hc;obtain⟨u,rfl,hu⟩:=VRs.inv1 hv
   match u,hu,h with
   | .pointer none,hu,h=>simp only[readD,Option.some.injEq]at h;subst h;refine⟨.pointer none,run_v ?_,.ptrN⟩;rw[hu.ptrN_inv];simp[convert,run_underlying e1,run_underlying e2,Conv.unsafePointer]
   | .pointer (some a),hu,h=>
     obtain⟨a',e',ha⟩:=hu.ptr_inv;simp only[readD]at h;split at h
     ·rename_i c e o fz st hg;split at h
      ·rename_i hk;obtain⟨k1,k2,k3,k4,k5⟩:=hk;simp only[Option.some.injEq]at h;subst h;subst k3;refine⟨.pointer (some a'),run_v ?_,.ptr ha⟩;rw[e'];obtain⟨h1,h2,m,h3,h4,h5⟩:=ha;obtain⟨c',fr,g1,g2⟩:=lookup_cells R h3 hg;obtain⟨_,⟨gl,_⟩,go,_,gs,gi,gc,_⟩:=g2;obtain⟨c1,c2⟩:=gc (by rw[←go];exact k4) k5;have hs:w.shape? a'.block=some (e,c'.size):=by unfold World.shape?;rw[h4,g1]
       refine Lib.run_from_unsafe w a' e1 e2 hj hs ?_;rw[show c'.size=P.cellsOf e by omega,show a'.off=0 by omega];exact liesAt_self hz.2
      ·cases h
     ·cases h
  ·cases hc
 ·cases hc
theorem read_slice{dst:Option Tmp}{type:TypeId}{pos:String}{after:Array Edge}{guard:Option (Nat×Bool)}{t:TypeId}{x:Operand}{lo hi mx:Option Operand}{ri:RI}{xs:List Operand}(hc:cOp P ⟨dst,.slice t x lo hi mx,type,pos,after,guard⟩=some (.read ri,xs)):ReadOK P ⟨dst,.slice t x lo hi mx,type,pos,after,guard⟩ ri xs:=by
 intro w0 μ H w ρ vs v R hρ hv h;simp only[cOp]at hc;unfold cSlice at hc;have e3:(x::(lo.toList++hi.toList++mx.toList)).map ρ=ρ x::((lo.map ρ).toList++(hi.map ρ).toList++(mx.map ρ).toList):=by cases lo<;>cases hi<;>cases mx<;>rfl
 simp only at hc;split at hc
 ·split at hc<;>cases hc
 ·rename_i el e;split at hc
  ·rename_i hok;simp only[Option.some.injEq,Prod.mk.injEq,CIns.read.injEq]at hc;obtain⟨rfl,rfl⟩:=hc;rw[e3]at hv
   match vs,hv with
   |u::vs,hv=>
    simp only[readD]at h;obtain⟨a,n,c,rfl,h1⟩:=asSl_some h;cases a with
    |none=>
     obtain⟨rfl,rfl,e'⟩:=hv.1.slN_inv;have hb:=bnds_ok (P:=P) (w:=w) (lo:=lo.map ρ) (hi:=hi.map ρ) (mx:=mx.map ρ) (rc:=0) (isS:=true) (Nat.le_refl _) (Nat.le_refl _) hv.2 (by simpa using h1);obtain⟨l,hh,m,h2,h3,h4,h5,h6,h7⟩:=hb;simp only[Option.some.injEq]at h2;subst h2;refine⟨.slice none 0 0,run_v ?_,by rw[show hh-l=0 by omega,show m-l=0 by omega];exact .slN⟩;rw[e'];simp only[Instr.sliceAt,Sem.run_bind,run_underlying e,Result.andThen_ok,Instr.slice,h7,run_sizeOf' (info_some hok),Sem.run_pure];have e1:hh-l=0:=by omega
     have e2:(if(mx.map ρ).isSome=true then m else 0)-l=0:=by split<;>omega
     rw[e1,e2];simp
    |some a=>
     obtain⟨a',c',e',hl,ha⟩:=hv.1.sl_inv;have hcc:c≤c':=by rcases ha with ⟨_,_,mb,_,_,q⟩|⟨_,_,q,q'⟩<;>omega
     have hb:=bnds_ok (P:=P) (w:=w) (lo:=lo.map ρ) (hi:=hi.map ρ) (mx:=mx.map ρ) (rc:=c') (isS:=true) hl hcc hv.2 (by simpa using h1);obtain⟨l,hh,m,h2,h3,h4,h5,h6,h7⟩:=hb;obtain⟨hk,h2⟩:=chk_some h2;simp only[Option.some.injEq]at h2;subst h2;refine⟨_,run_v ?_,subSl_ok R hl ha (mx:=(mx.map ρ).isSome) h3 h4 h5 (fun hm=>h6 (by simpa using hm)) (by simpa using hk)⟩;rw[e'];simp only[Instr.sliceAt,Sem.run_bind,run_underlying e,Result.andThen_ok,Instr.slice,h7,run_sizeOf' (info_some hok),Sem.run_pure]
     congr 2
     split<;>split<;>rfl
  ·cases hc
 ·split at hc<;>cases hc
 ·split at hc<;>(try split at hc)<;>cases hc
 ·cases hc
theorem sEq_eq'{a b:ByteArray}(h:sEq a b=true):a=b:=by unfold sEq lst at h;simp only[beq_iff_eq,Array.toList_inj]at h;exact ByteArray.ext h
theorem sEq_self(a:ByteArray):sEq a a=true:=by simp[sEq]
theorem exec_bi{dst:Option Tmp}{type:TypeId}{pos:String}{after:Array Edge}{guard:Option (Nat×Bool)}{b:Builtin}{ts:Array TypeId}{xs:Array Operand}{ρ:Operand→Value}{nx:Next}{w':World}(h:(builtin b ts type (xs.map fun| .const _=>true|_=>false) (xs.map ρ)).run P w=.ok nx w'):(execOp ρ ⟨dst,.call ⟨.builtin b,xs,ts⟩,type,pos,after,guard⟩).run P w=.ok nx w':=by
 simp only[execOp,resolve,Sem.run_bind,Sem.run_pure,Result.andThen_ok,invoke];exact h
theorem eqC_now{d:TypeDesc}{kd:Kd0}(hd:keyKd d=some kd){k x x':Value}{b:Bool}(hv:VR μ x x')(h:eqC kd k x=some b):Instr.sameNow d k x'=some b∧(b=true→x'=k):=by
 cases d<;>simp only[keyKd,Option.some.injEq]at hd<;>(try (cases hd;done))<;>subst hd
 ·cases k<;>cases x<;>simp only[eqC]at h<;>(try (cases h;done));simp only[Option.some.injEq]at h;subst h;rw[hv.bool_inv];simp[Instr.sameNow];intro e;rw[e]
 ·cases k<;>cases x<;>simp only[eqC]at h<;>(try (cases h;done));split at h
  ·rename_i hk;obtain⟨rfl,rfl⟩:=hk;simp only[Option.some.injEq]at h;subst h;rw[hv.int_inv];refine⟨?_,fun e=>?_⟩
   ·simp[Instr.sameNow,Bool.beq_eq_decide_eq]
   ·rw[of_decide_eq_true e]
  ·cases h
 ·cases k<;>cases x<;>simp only[eqC]at h<;>(try (cases h;done));simp only[Option.some.injEq]at h;subst h;rw[hv.string_inv];rename_i s t;simp only[Instr.sameNow,Option.some.injEq];have:sEq s t=(s==t):=by
   cases e:sEq s t with
   |true=>rw[sEq_eq' e];simp[MapKept.bytes_beq]
   |false=>
    cases e2:(s==t)with
    |false=>rfl
    |true=>
     have:s=t:=by simpa[MapKept.bytes_beq]using e2
     subst this;rw[sEq_self]at e;cases e
  refine⟨this.symm,fun e=>by rw[sEq_eq' e]⟩
theorem find_ok{d:TypeDesc}{kd:Kd0}(hd:keyKd d=some kd){k:Value}:∀(es:List (Value×Value×Nat)) (es':List MapEntry) (i:Nat) (r:Option (Nat×Value×Nat)),es.length=es'.length→
  (∀(j:Nat) (e:Value×Value×Nat),es[j]?=some e→∃e':MapEntry,es'[j]?=some e'∧VR μ e.1 e'.key∧VR μ e.2.1 e'.val∧e.2.2=e'.born)→mapFind kd k es i=some r→
  (r=none∧Instr.findNow d k es' i=some none)∨∃j e e',r=some (i+j,e.2)∧es[j]?=some e∧es'[j]?=some e'∧e'.key=k∧VR μ e.2.1 e'.val∧e.2.2=e'.born∧Instr.findNow d k es' i=some (some (i+j,e'.val))
 |[],[],i,r,_,_,h=>by simp only[mapFind,Option.some.injEq]at h;exact .inl ⟨h.symm,rfl⟩
 |[],_::_,_,_,hl,_,_=>by simp at hl
 |_::_,[],_,_,hl,_,_=>by simp at hl
 |e::es,e'::es',i,r,hl,he,h=>by
  obtain⟨q,h0,h1,h2,h3⟩:=he 0 e rfl;simp only[List.getElem?_cons_zero,Option.some.injEq]at h0;subst h0;simp only[mapFind]at h;split at h
  ·rename_i hq;simp only[Option.some.injEq]at h;subst h;obtain⟨n1,n2⟩:=eqC_now hd h1 hq;refine .inr ⟨0,e,e',rfl,rfl,rfl,n2 rfl,h2,h3,?_⟩;simp only[Instr.findNow,n1,Nat.add_zero]
  ·rename_i hq;obtain⟨n1,_⟩:=eqC_now hd h1 hq;rcases find_ok hd es es' (i+1) r (by simpa using hl) (fun j x hx=>he (j+1) x (by simpa using hx)) h with ⟨rfl,g⟩|⟨j,x,x',rfl,g1,g2,g3,g4,g5,g6⟩
   ·exact .inl ⟨rfl,by simp only[Instr.findNow,n1,g]⟩
   ·refine .inr ⟨j+1,x,x',by rw[show i+(j+1)=i+1+j by omega],by simpa using g1,by simpa using g2,g3,g4,g5,?_⟩;simp only[Instr.findNow,n1,g6];rw[show i+(j+1)=i+1+j by omega]
  ·cases h
theorem isKey_ok{d:TypeDesc}{kd:Kd0}(hd:keyKd d=some kd){k:Value}(h:isKey kd k=true):MapKept.IsKey d k∧plain k=true:=by cases d<;>simp only[keyKd,Option.some.injEq]at hd<;>(try (cases hd;done))<;>subst hd<;>cases k<;>simp[isKey]at h<;>simp[MapKept.IsKey,plain,h]
theorem VR.plain_inv{v v':Value}(h:VR μ v v'){kd:Kd0}(hp:isKey kd v=true):v'=v:=by
 cases v<;>cases kd<;>simp only[isKey]at hp<;>(try (cases hp;done))
 ·exact h.bool_inv
 ·exact h.int_inv
 ·exact h.string_inv
theorem VR.mapN_inv{v':Value}(h:VR μ (.map none) v'):v'=.map none:=by cases h;rfl
theorem ents_some{r:Nat}{es:List (Value×Value×Nat)}{clock:Nat}(h:H.ents r=some (es,clock)):H.get r=some (.map es clock):=by
 unfold Heap.ents at h;split at h
 ·rename_i e c hg;simp only[Option.some.injEq,Prod.mk.injEq]at h;obtain⟨rfl,rfl⟩:=h;exact hg
 ·cases h
theorem map_ok(R:RR P w0 μ H w){r:Nat}{x':Value}{es:List (Value×Value×Nat)}{clock:Nat}(hv:VR μ (.map (some r)) x')(h:H.ents r=some (es,clock)):
  ∃(m:MB) (es':Array MapEntry),x'=.map (some m.blk)∧μ r=some m∧m.sh=0∧w.heap[m.blk]?=some (.map es' clock)∧es.length=es'.toList.length∧∀(i:Nat) (e:Value×Value×Nat),es[i]?=some e→∃e':MapEntry,es'.toList[i]?=some e'∧VR μ e.1 e'.key∧VR μ e.2.1 e'.val∧e.2.2=e'.born:=by
 have hg:=ents_some h;cases hv with
 |map h1 h2=>
  rename_i m;obtain⟨o',g1,g2⟩:=R.obj _ _ _ h1 hg;cases o'<;>simp only[OR]at g2;obtain⟨_,rfl,g3,g4⟩:=g2;exact⟨m,_,rfl,h1,h2,g1,by simpa using g3,fun i e he=>by obtain⟨e',a,b⟩:=g4 i e he;exact⟨e',by simpa using a,b⟩⟩
theorem mapKd_some{t:TypeId}{kd:Kd0}{e:TypeId}(h:mapKd P t=some (kd,e)):∃k d,P.underlying t=some (.map k e)∧P.underlying k=some d∧keyKd d=some kd:=by
 unfold mapKd at h;split at h
 ·rename_i k e' h1;split at h
  ·rename_i d h2;split at h
   ·rename_i kd' h3;simp only[Option.some.injEq,Prod.mk.injEq]at h;obtain⟨rfl,rfl⟩:=h;exact⟨k,d,h1,h2,h3⟩
   ·cases h
  ·cases h
 ·cases h
theorem lookV_ok{v v':Value}(h:VR μ v v')(b ok:Bool):VR μ (lookV v b ok) (lookV v' b ok):=by
 cases ok
 ·exact h
 ·exact VR.tuple_of (l:=[v,.bool b]) (l':=[v',.bool b]) ⟨h,.bool _,trivial⟩
theorem VR.zero{t:TypeId}{z:List Value}(hp:z.all plain=true)(ho:isAggT P t=true∨z.length=1):VR μ (valT P t z) (valT P t z):=by
 unfold valT;split
 ·exact VR.agg_of (VRs.of_plain hp) (fun v hv=>one_of_plain (List.all_eq_true.1 hp v hv))
 ·rename_i h;rcases ho with ho|ho
  ·exact absurd ho h
  ·match z,ho,hp with
   |[v],_,hp=>exact VR.of_plain (by simpa using hp)
theorem read_lookup{dst:Option Tmp}{type:TypeId}{pos:String}{after:Array Edge}{guard:Option (Nat×Bool)}{t:TypeId}{x i:Operand}{ok:Bool}{ri:RI}{xs:List Operand}(hc:cOp P ⟨dst,.lookup t x i ok,type,pos,after,guard⟩=some (.read ri,xs)):ReadOK P ⟨dst,.lookup t x i ok,type,pos,after,guard⟩ ri xs:=by
 intro w0 μ H w ρ vs v R hρ hv h;simp only[cOp]at hc;split at hc
 ·rename_i kd e hk;split at hc
  ·rename_i z hz;simp only[Option.some.injEq,Prod.mk.injEq,CIns.read.injEq]at hc;obtain⟨rfl,rfl⟩:=hc;obtain⟨kt,d,u1,u2,u3⟩:=mapKd_some hk;obtain⟨z1,z2,z3,z4,z5⟩:=run_zeroValue (w:=w) hz;obtain⟨m,k,rfl,hm,hkv⟩:=VRs.inv2 hv;have hzv:VR μ (if isAggT P e then .agg z.toArray else z.headD undef) (valT P e z):=VR.zero z2 z4
   match m,hm,h with
   | .map none,hm,h=>
     simp only[readD]at h;split at h
     ·rename_i hik;simp only[Option.some.injEq]at h;subst h;obtain⟨q1,q2⟩:=isKey_ok u3 hik;have ek:=hkv.plain_inv hik;have em:ρ x=.map none:=hm.mapN_inv;refine⟨lookV (valT P e z) false ok,run_v ?_,lookV_ok hzv _ _⟩;rw[em,ek];have hf:Instr.findNow d k (#[]:Array MapEntry).toList 0=some none:=rfl;simp only[Instr.lookup,Sem.run_bind,run_underlying u1,Result.andThen_ok,Sem.run_pure,MapKept.run_checkKey u2 q1,MapKept.run_findKey u2 hf,z1];cases ok<;>rfl
     ·cases h
   | .map (some r),hm,h=>
     simp only[readD]at h;split at h
     ·rename_i hik;obtain⟨q1,q2⟩:=isKey_ok u3 hik;have ek:=hkv.plain_inv hik;split at h
      ·rename_i es clock he;obtain⟨m,es',em,_,_,g1,g2,g3⟩:=map_ok R hm he;have hget:(getObj m.blk).run P w=.ok (.map es' clock) w:=MapKept.run_getObj_map g1;rw[show(execOp ρ ⟨dst,.lookup t x i ok,type,pos,after,guard⟩).run P w=(do pure (Next.value (←Instr.lookup t (ρ x) (ρ i) ok)):Sem Next).run P w from rfl,em,ek];split at h
       ·rename_i hf;simp only[Option.some.injEq]at h;subst h;rcases find_ok u3 es es'.toList 0 _ g2 g3 hf with ⟨hh,_⟩|⟨j,a,a',hh,f1,f2,f3,f4,f5,f6⟩
        ·cases hh
        ·simp only[Option.some.injEq,Prod.mk.injEq]at hh;obtain⟨_,hh⟩:=hh;refine⟨lookV a'.val true ok,run_v ?_,lookV_ok (by rw[←hh]at f4;exact f4) _ _⟩;simp only[Instr.lookup,Sem.run_bind,run_underlying u1,Result.andThen_ok,Sem.run_pure,hget,MapKept.run_checkKey u2 q1,MapKept.run_findKey u2 f6];cases ok<;>rfl
       ·rename_i hf;simp only[Option.some.injEq]at h;subst h;rcases find_ok u3 es es'.toList 0 _ g2 g3 hf with ⟨_,f6⟩|⟨j,a,a',hh,_⟩
        ·refine⟨lookV (valT P e z) false ok,run_v ?_,lookV_ok hzv _ _⟩;simp only[Instr.lookup,Sem.run_bind,run_underlying u1,Result.andThen_ok,Sem.run_pure,hget,MapKept.run_checkKey u2 q1,MapKept.run_findKey u2 f6,z1];cases ok<;>rfl
        ·cases hh
       ·cases h
      ·cases h
     ·cases h
  ·cases hc
 ·cases hc
theorem read_len{dst:Option Tmp}{type:TypeId}{pos:String}{after:Array Edge}{guard:Option (Nat×Bool)}{c:Call}{ri:RI}{xs:List Operand}(hc:cOp P ⟨dst,.call c,type,pos,after,guard⟩=some (.read ri,xs)):ReadOK P ⟨dst,.call c,type,pos,after,guard⟩ ri xs:=by
 intro w0 μ H w ρ vs v R hρ hv h;simp only[cOp]at hc;obtain⟨callee,args,argTypes⟩:=c;cases callee with
 |value f=>cases f<;>simp at hc
 |invoke r m=>cases hc
 |builtin b=>
  simp only at hc;have arr:∀{α:Type} {a:Array α} {l:List α},a.toList=l→a=l.toArray:=fun h=>by rw[←h]
  unfold cBuiltin at hc;split at hc
  ·rename_i t x ht ha;have hA:=arr ht;have hB:=arr ha;subst hA hB;split at hc
   ·cases hc
   ·cases hc
   ·cases hc
   ·split at hc<;>cases hc
   ·rename_i k e u;simp only[Option.some.injEq,Prod.mk.injEq,CIns.read.injEq]at hc;obtain⟨rfl,rfl⟩:=hc;obtain⟨m,rfl,hm⟩:=VRs.inv1 hv
    match m,hm,h with
    | .map none,hm,h=>simp only[readD,Option.some.injEq]at h;subst h;have em:ρ x=.map none:=hm.mapN_inv;refine⟨.int .i64 0,exec_bi ?_,.int _ _⟩;rw[show([x].toArray:Array Operand).map ρ= #[ρ x]by simp,em];refine run_v (s:=Builtin.len_ #[t] type #[.map none]) ?_;simp[Builtin.len_,run_underlying u,goInt]
    | .map (some r),hm,h=>
      simp only[readD]at h;split at h
      ·rename_i es clock he;simp only[Option.some.injEq]at h;subst h;obtain⟨m,es',em,_,_,g1,g2,g3⟩:=map_ok R hm he;refine⟨.int .i64 es.length,exec_bi ?_,.int _ _⟩;rw[show([x].toArray:Array Operand).map ρ= #[ρ x]by simp,em];refine run_v (s:=Builtin.len_ #[t] type #[.map (some m.blk)]) ?_;have hget:(getObj m.blk).run P w=.ok (.map es' clock) w:=MapKept.run_getObj_map g1;simp[Builtin.len_,run_underlying u,hget,goInt,g2]
      ·cases h
   ·cases hc
  all_goals
   repeat' split at hc
   all_goals cases hc
theorem read_ok{o:Oper}{ri:RI}{xs:List Operand}(hc:cOp P o=some (.read ri,xs)):ReadOK P o ri xs:=by
 obtain⟨dst,op,type,pos,after,guard⟩:=o;cases op;case load t a=>
  simp only[cOp]at hc;split at hc
  ·rename_i ht;simp only[Option.some.injEq,Prod.mk.injEq,CIns.read.injEq]at hc;obtain⟨rfl,rfl⟩:=hc;intro w0 μ H w ρ vs v R hρ hv h;obtain⟨u,rfl,hu⟩:=VRs.inv1 hv
   match u,hu,h with
   | .pointer (some a1),hu,h=>obtain⟨a',e',ha⟩:=hu.ptr_inv;obtain⟨v',h1,h2⟩:=loadVar_ok R ht ha h;refine⟨v',run_v ?_,h2⟩;rw[e'];simp only[Instr.loadAt,Instr.sureAddr,Sem.run_bind,Sem.run_pure,Result.andThen_ok,h1]
  ·cases hc
 case binOp=>exact read_bin hc
 case convert=>exact read_conv hc
 case slice=>exact read_slice hc
 case lookup=>exact read_lookup hc
 case call=>exact read_len hc
 all_goals simp only[cOp]at hc
 all_goals first
  |(cases hc;done)
  |(split at hc<;>first|(cases hc;done)|(split at hc<;>first|(cases hc;done)|(split at hc<;>first|(cases hc;done)|(split at hc<;>cases hc))))
  |skip
end
section
variable{P:Program}{w0:Start}{μ:Mu}{H:Heap}{w:World}
def Mu.add(μ:Mu)(b:Nat)(m:MB):Mu:=fun k=>if k=b then some m else μ k
theorem Mu.add_same(μ:Mu)(b:Nat)(m:MB):μ.add b m b=some m:=if_pos rfl
theorem Mu.le_add{b:Nat}{m:MB}(h:μ b=none):μ.le (μ.add b m):=by
 intro k x hk;unfold Mu.add;split
 ·rename_i e;subst e;rw[h]at hk;cases hk
 ·exact hk
theorem RR.newAt(R:RR P w0 μ H w){o:CObj}{o':Obj}{m:MB}{w':World}(hor:OR P μ m o o')(hlow:w0.heap.size≤m.blk)(hfree:∀b m1 o1,μ b=some m1→H.get b=some o1→m1.blk≠m.blk)(hsz:w.heap.size≤w'.heap.size)(hblk:w'.heap[m.blk]?=some o')(hkeep:∀k,k≠m.blk→k<w.heap.size→w'.heap[k]?=w.heap[k]?)(hio:w'.os=w.os∧w'.output=w.output:=by exact⟨rfl,rfl⟩):RR P w0 (μ.add H.next m) (H.new o) w'∧Ext μ H (μ.add H.next m) (H.new o):=by
 have hle:μ.le (μ.add H.next m):=Mu.le_add (R.fresh _ (Nat.le_refl _));have hlt:m.blk<w'.heap.size:=by
  rcases Nat.lt_or_ge m.blk w'.heap.size with h|h
  ·exact h
  ·rw[Array.getElem?_eq_none h]at hblk;cases hblk
 refine⟨⟨?_,?_,?_,?_,?_,R.nle,(fun b hb=>let ⟨m1,h1,h2,h3⟩:=R.idn b hb;⟨m1,hle _ _ h1,h2,h3⟩),?_,?_,?_,?_,(fun b hb=>by simp only[Heap.next_new]at hb;rw[Heap.get_new_ne _ _ (by omega)];exact R.top b (by omega)),⟨hio.1.trans R.io.1,hio.2.trans R.io.2⟩⟩,⟨hle,?_,by simp⟩⟩
 ·intro b m1 o1 h1 h2;rw[Heap.get_new]at h2;unfold Mu.add at h1;by_cases e:b=H.next
  ·rw[if_pos e]at h1 h2;cases h1;cases h2;exact⟨o',hblk,hor.mono hle⟩
  ·rw[if_neg e]at h1 h2;obtain⟨o2,h3,h4⟩:=R.obj b m1 o1 h1 h2;exact⟨o2,by rw[hkeep _ (hfree _ _ _ h1 h2) (R.blk _ _ h1)];exact h3,h4.mono hle⟩
 ·intro b1 b2 m1 m2 o1 o2 n1 n2 h1 h2 h3 h4 h5;rw[Heap.get_new]at h3 h4;unfold Mu.add at h1 h2;by_cases e1:b1=H.next<;>by_cases e2:b2=H.next
  ·rw[e1,e2]
  ·rw[if_pos e1]at h1 h3;rw[if_neg e2]at h2 h4;cases h1;exact absurd h5.symm (hfree _ _ _ h2 h4)
  ·rw[if_neg e1]at h1 h3;rw[if_pos e2]at h2 h4;cases h2;exact absurd h5 (hfree _ _ _ h1 h3)
  ·rw[if_neg e1]at h1 h3;rw[if_neg e2]at h2 h4;exact R.inj _ _ _ _ _ _ n1 n2 h1 h2 h3 h4 h5
 ·intro b hb;simp only[Heap.next_new]at hb;unfold Mu.add;rw[if_neg (by omega)];exact R.fresh _ (by omega)
 ·intro b m1 h1;unfold Mu.add at h1;split at h1
  ·cases h1;exact hlt
  ·exact Nat.lt_of_lt_of_le (R.blk _ _ h1) hsz
 ·exact Nat.le_trans R.size hsz
 ·intro b m1 h1;unfold Mu.add at h1;split at h1
  ·rename_i e;cases h1;have:=R.lown;exact .inr ⟨by omega,hlow⟩
  ·exact R.low _ _ h1
 ·have:=R.lown;simp;omega
 ·intro b hb;rw[hkeep _ (by omega) (Nat.lt_of_lt_of_le hb R.size)];exact R.base b hb
 ·intro b o1 hb h1;have:=R.lown;rw[Heap.get_new,if_neg (by omega)]at h1;exact R.still _ _ hb h1
 ·intro b hb h1;refine⟨?_,Heap.get_new_ne _ _ (by omega)⟩;unfold Mu.add;rw[if_neg (by omega)];exact h1
theorem RR.new(R:RR P w0 μ H w){o:CObj}{o':Obj}{m:MB}{w':World}(hm:m.blk=w.heap.size)(hor:OR P μ m o o')(hw:w'.heap=w.heap.push o')(hio:w'.os=w.os∧w'.output=w.output:=by exact⟨rfl,rfl⟩):RR P w0 (μ.add H.next m) (H.new o) w'∧Ext μ H (μ.add H.next m) (H.new o):=R.newAt hor (by rw[hm];exact R.size) (fun b m1 o1 h1 _=>by have:=R.blk _ _ h1;omega) (by rw[hw];simp) (by rw[hw,hm];simp) (fun k h1 h2=>by rw[hw,Array.getElem?_push_lt h2,Array.getElem?_eq_getElem h2]) hio
theorem RR.put(R:RR P w0 μ H w){b:Nat}{m:MB}{o o2:CObj}{o':Obj}{w':World}(hm:μ b=some m)(hg:H.get b=some o)(hlow:w0.heap.size≤m.blk)(hor:OR P μ m o2 o')(hw:w'.heap=w.heap.setIfInBounds m.blk o')(hio:w'.os=w.os∧w'.output=w.output:=by exact⟨rfl,rfl⟩):RR P w0 μ (H.put b o2) w'∧Ext μ H μ (H.put b o2):=by
 have hbk:=R.blk _ _ hm;have hb0:w0.n0≤b:=(R.high hm).2 hlow;have hal:∀k o1,(H.put b o2).get k=some o1→∃o3,H.get k=some o3:=by
  intro k o1 h;rw[Heap.get_put]at h;split at h
  ·rename_i e;subst e;exact⟨_,hg⟩
  ·exact⟨_,h⟩
 refine⟨⟨?_,?_,R.fresh,?_,?_,R.nle,R.idn,R.low,R.lown,?_,?_,(fun k hk=>by rw[Heap.get_put_ne _ _ (fun e=>by rw[e]at hk;rw[R.fresh _ hk]at hm;cases hm)];exact R.top k hk),⟨hio.1.trans R.io.1,hio.2.trans R.io.2⟩⟩,⟨Mu.le_refl μ,?_,Nat.le_refl _⟩⟩
 ·intro k m1 o1 h1 h2;by_cases e:k=b
  ·subst e;rw[hm]at h1;cases h1;rw[Heap.get_put_same]at h2;cases h2;exact⟨o',by rw[hw];simp[hbk],hor⟩
  ·rw[Heap.get_put_ne _ _ e]at h2;obtain⟨o3,h3,h4⟩:=R.obj k m1 o1 h1 h2;refine⟨o3,?_,h4⟩;rw[hw,Array.getElem?_setIfInBounds_ne]
   ·exact h3
   ·intro hc;exact e (R.inj' h1 hm h2 hg hc.symm hlow)
 ·intro b1 b2 m1 m2 o1 o2 n1 n2 h1 h2 h3 h4 h5;obtain⟨_,h3⟩:=hal _ _ h3;obtain⟨_,h4⟩:=hal _ _ h4;exact R.inj _ _ _ _ _ _ n1 n2 h1 h2 h3 h4 h5
 ·intro k m1 h1;rw[hw];simpa using R.blk _ _ h1
 ·rw[hw];simpa using R.size
 ·intro k hk;rw[hw,Array.getElem?_setIfInBounds_ne (by omega)];exact R.base k hk
 ·intro k o1 hk h1;rw[Heap.get_put_ne _ _ (by omega)]at h1;exact R.still _ _ hk h1
 ·intro k hk h1;refine⟨h1,Heap.get_put_ne _ _ ?_⟩;intro e;subst e;rw[hm]at h1;cases h1
theorem RR.kill(R:RR P w0 μ H w){b:Nat}{m:MB}(hm:μ b=some m):RR P w0 μ (H.kill b) w∧Ext μ H μ (H.kill b):=by
 have hal:∀{k o1},(H.kill b).get k=some o1→H.get k=some o1:=by
  intro k o1 h;rw[Heap.get_kill]at h;split at h
  ·cases h
  ·exact h
 refine⟨⟨fun k m1 o1 h1 h2=>R.obj k m1 o1 h1 (hal h2),fun b1 b2 m1 m2 o1 o2 n1 n2 h1 h2 h3 h4=>R.inj _ _ _ _ _ _ n1 n2 h1 h2 (hal h3) (hal h4),R.fresh,R.blk,R.size,R.nle,R.idn,R.low,R.lown,R.base,fun k o1 hk h1=>R.still _ _ hk (hal h1),(fun k hk=>by rw[Heap.get_kill,R.top k hk,ite_self]),R.io⟩,⟨Mu.le_refl μ,fun k hk h1=>⟨h1,Heap.get_kill_ne _ ?_⟩,Nat.le_refl _⟩⟩;intro e;subst e;rw[hm]at h1;cases h1
theorem OR.closed{blk:Nat}{e:TypeId}{l l':List Value}(h:VRs μ l l')(ho:∀v∈l,one v=true):OR P μ ⟨blk,0,l.length,l.length,P.cellsOf e,false⟩ (.cells l e false 0 false) (.cells l'.toArray e (0,0)):=by
 refine⟨rfl,⟨rfl,Nat.zero_le _⟩,rfl,rfl,by simpa using h.length.symm,by simp,fun _ _=>⟨rfl,rfl⟩,?_,by simp,by simp⟩;intro i v hv;obtain⟨v',h1,h2⟩:=h.get i v hv;refine⟨ho v (List.mem_of_getElem? hv),v',by simpa using h1,h2⟩
theorem OR.opened{blk:Nat}{e:TypeId}{l l' rest:List Value}{fr:Nat×Nat}{s:Bool}{fz:Nat}(h:VRs μ l l')(ho:∀v∈l,one v=true)(hz:fz≤l.length)(hfr:fr=(0,0)∨(s=true∧fr=((l'++rest).length,(l'++rest).length+1))):OR P μ ⟨blk,0,l.length,(l'++rest).length,P.cellsOf e,true⟩ (.cells l e true fz s) (.cells (l'++rest).toArray e fr):=by
 have hl:=h.length;refine⟨rfl,⟨rfl,hz⟩,rfl,rfl,by simp,by simp;omega,(fun h=>by cases h),?_,?_,?_⟩
 ·intro i v hv;obtain⟨v',h1,h2⟩:=h.get i v hv;refine⟨ho v (List.mem_of_getElem? hv),v',?_,h2⟩;have hi:i<l'.length:=by
   rcases Nat.lt_or_ge i l'.length with h|h
   ·exact h
   ·rw[List.getElem?_eq_none h]at h1;cases h1
  simp only[Nat.add_zero,List.getElem?_toArray,List.getElem?_append_left hi];exact h1
 ·intro j hj _ _;rcases hfr with rfl|⟨_,rfl⟩
  ·simp
  ·simp only at hj⊢;omega
 ·intro hs;rcases hfr with rfl|⟨h,_⟩
  ·simp
  ·rw[hs]at h;cases h
theorem run_newVar{t:TypeId}{v:Value}:(newVar t v).run P w=.ok ⟨w.heap.size,0,none⟩ {w with heap:=w.heap.push (.cells v.cells t)}:=by simp[newVar,newRow]
theorem run_storeCells{b:Nat}{e:TypeId}{fr:Nat×Nat}:∀(l:List Value) (i off:Nat) (c:Array Value) (w:World),w.heap[b]?=some (.cells c e fr)→off+i+l.length≤c.size→
  (∀j,off+i≤j→j<off+i+l.length→¬(fr.1≤j∧j<fr.2))→(∀v∈l,one v=true)→
  (storeCells ⟨b,off,none⟩ l i).run P w=.ok () (if l=[]then w else {w with heap:=w.heap.setIfInBounds b (.cells (splice c.toList (off+i) l).toArray e fr)})
 |[],i,off,c,w,_,_,_,_=>by simp[storeCells]
 |v::l,i,off,c,w,hb,hl,hf,ho=>by
  simp only[List.length_cons]at hl hf;have e1:(⟨b,off,none⟩:Addr).add i=⟨b,off+i,none⟩:=by rw[ap_eq rfl];rfl
  have hlt:b<w.heap.size:=by
   rcases Nat.lt_or_ge b w.heap.size with h|h
   ·exact h
   ·rw[Array.getElem?_eq_none h]at hb;cases hb
  have hc:w.cell? ⟨b,off+i,none⟩=some c[off+i]:=by unfold World.cell?;simp only[hb,Option.isSome_none,Bool.false_eq_true,if_false];exact Array.getElem?_eq_getElem (by omega)
  have hz:w.frozen? ⟨b,off+i,none⟩=false:=by unfold World.frozen?;simp only[hb];have:=hf (off+i) (by omega) (by omega);simpa using this
  have hov:v.oneCell'=true:=by have:=ho v (by simp);cases v<;>simp_all [one,Value.oneCell']
  have hw:w.setCell ⟨b,off+i,none⟩ v={w with heap:=w.heap.setIfInBounds b (.cells (c.setIfInBounds (off+i) v) e fr)}:=by
   unfold World.setCell
   congr 1
   apply Array.ext_getElem?;intro k;rw[Array.getElem?_modify,Array.getElem?_setIfInBounds];by_cases hk:b=k
   ·subst hk;simp only[hb,hlt,if_true,Option.map_some];simp
   ·simp[hk]
  simp only[storeCells,Sem.run_bind,e1,run_store P w _ v .plain hov,hc,hz,Result.andThen_ok,hw,Bool.false_eq_true,if_false];have hb2:({w with heap:=w.heap.setIfInBounds b (.cells (c.setIfInBounds (off+i) v) e fr)}:World).heap[b]?=some (.cells (c.setIfInBounds (off+i) v) e fr):=by simp[hlt]
  rw[run_storeCells l (i+1) off _ _ hb2 (by simp;omega) (fun j h1 h2=>hf j (by omega) (by omega)) (fun x hx=>ho x (by simp[hx]))];have hne:¬(v::l=[]):=by simp
  rw[if_neg hne];have e2:(c.setIfInBounds (off+i) v).toList=c.toList.set (off+i) v:=by simp
  by_cases hn:l=[]
  ·subst hn;simp only[if_true]
   congr 3
   simp only[splice];have:c.toList.set (off+i) v=c.toList.take (off+i)++[v]++c.toList.drop (off+i+1):=by rw[List.set_eq_take_append_cons_drop];simp;omega
   have h3:c.setIfInBounds (off+i) v=(c.toList.set (off+i) v).toArray:=by rw[←e2]
   rw[h3,this];simp
  ·rw[if_neg hn]
   congr 1
   rw[e2,←Nat.add_assoc,splice_cons _ _ _ _ (by simp;omega)];simp
end
def nxv:Next→Option Value
 | .value v=>some v
 | .skip=>some undef
 |_=>none
def EffOK(P:Program)(o:Oper)(e:EI)(xs:List Operand):Prop:=∀(w0:Start) (μ:Mu) (H:Heap) (w:World) (ρ:Operand→Value) (vs:List Value) (K:Value→Heap→Res) (r:Value×Heap),RR P w0 μ H w→(∀v,ρ (.const v)=v)→VRs μ vs (xs.map ρ)→effK e vs H K=some r→∃v H' μ' v' nx w',K v H'=some r∧(execOp ρ o).run P w=.ok nx w'∧nxv nx=some v'∧VR μ' v v'∧RR P w0 μ' H' w'∧Ext μ H μ' H'
section
variable{P:Program}{w0:Start}{μ:Mu}{H:Heap}{w:World}
theorem VR.undef(μ:Mu):VR μ (.tuple #[]) Go.undef:=.tuple rfl (fun i h=>by simp at h)
theorem AR.new{m:MB}{b:Nat}(hs:m.sh=0):AR (μ.add b m) ⟨b,0,none⟩ ⟨m.blk,0,none⟩:=⟨rfl,rfl,m,Mu.add_same _ _ _,rfl,by simp[hs]⟩
theorem new_closed(R:RR P w0 μ H w){e:TypeId}{l l':List Value}(h:VRs μ l l')(ho:∀v∈l,one v=true):∃m,m.blk=w.heap.size∧m.sh=0∧RR P w0 (μ.add H.next m) (H.new (.cells l e false 0 false)) {w with heap:=w.heap.push (.cells l'.toArray e (0,0))}∧Ext μ H (μ.add H.next m) (H.new (.cells l e false 0 false)):=by
 obtain⟨h1,h2⟩:=R.new (o:=.cells l e false 0 false) (w':={w with heap:=w.heap.push (.cells l'.toArray e (0,0))}) (m:=⟨w.heap.size,0,l.length,l.length,P.cellsOf e,false⟩) rfl (OR.closed h ho) rfl;exact⟨_,rfl,rfl,h1,h2⟩
theorem rep_length(z:List Value):∀n,(rep z n).length=n*z.length
 |0=>by simp[rep]
 |n+1=>by simp[rep,rep_length z n,Nat.add_mul];omega
theorem rep_mem{z:List Value}{v:Value}:∀{n:Nat},v∈rep z n→v∈z
 |0,h=>by simp[rep]at h
 |n+1,h=>by simp only[rep,List.mem_append]at h;exact h.elim id rep_mem
theorem rep_get{z:List Value}:∀(n i:Nat),i<n*z.length→(rep z n)[i]?=z[i%z.length]?
 |0,i,h=>by simp at h
 |n+1,i,h=>by
  simp only[rep];by_cases hi:i<z.length
  ·rw[List.getElem?_append_left hi,Nat.mod_eq_of_lt hi]
  ·rw[List.getElem?_append_right (by omega),rep_get n _ (by rw[Nat.add_mul]at h;omega)]
   congr 1
   conv=>rhs;rw[show i=(i-z.length)+z.length by omega,Nat.add_mod_right]
theorem rep_eq(z:List Value)(n:Nat):(Array.range (n*z.length)).map (fun i=>z.toArray[i%z.toArray.size]!)=(rep z n).toArray:=by
 apply Array.ext_getElem?;intro i;have e0:(rep z n).toArray[i]?=(rep z n)[i]?:=by simp
 rw[e0,Array.getElem?_map];by_cases hi:i<n*z.length
 ·have hz:i%z.length<z.length:=Nat.mod_lt _ (by
   rcases Nat.eq_zero_or_pos z.length with h|h
   ·rw[h]at hi;simp at hi
   ·exact h)
  rw[rep_get n i hi,Array.getElem?_eq_getElem (by simpa using hi)];simp[hz]
 ·rw[Array.getElem?_eq_none (by simpa using hi),List.getElem?_eq_none (by rw[rep_length];omega)];rfl
theorem VRs.rep{z:List Value}(hz:z.all plain=true)(n:Nat):VRs μ (Cm.rep z n) (Cm.rep z n):=VRs.of_plain (List.all_eq_true.2 fun v hv=>List.all_eq_true.1 hz v (rep_mem hv))
theorem rep_one{z:List Value}(hz:z.all plain=true)(n:Nat):∀v∈Cm.rep z n,one v=true:=fun v hv=>one_of_plain (List.all_eq_true.1 hz v (rep_mem hv))
theorem eff_alloc{dst:Option Tmp}{type:TypeId}{pos:String}{after:Array Edge}{guard:Option (Nat×Bool)}{t:TypeId}{ei:EI}{xs:List Operand}(hc:cOp P ⟨dst,.alloc t,type,pos,after,guard⟩=some (.eff ei,xs)):EffOK P ⟨dst,.alloc t,type,pos,after,guard⟩ ei xs:=by
 intro w0 μ H w ρ vs K r R hρ hv h;simp only[cOp]at hc;split at hc
 ·rename_i z hz;simp only[Option.some.injEq,Prod.mk.injEq,CIns.eff.injEq]at hc;obtain⟨rfl,rfl⟩:=hc
  match vs,hv,h with
  |[],hv,h=>simp only[effK]at h;obtain⟨z1,z2,z3,z4,z5⟩:=run_zeroValue (w:=w) hz;have ho:∀v∈z,one v=true:=fun v hv=>one_of_plain (List.all_eq_true.1 z2 v hv);obtain⟨m,hm,hs,R',E'⟩:=new_closed R (e:=t) (VRs.of_plain z2) ho;refine⟨_,_,_,_,.value _,_,h,?_,rfl,.ptr (AR.new hs),R',E'⟩;rw[hm];simp only[execOp,Instr.alloc,Sem.run_bind,z1,Result.andThen_ok,run_newVar,Sem.run_pure,cells_valT z4 ho]
 ·cases hc
theorem eff_box{dst:Option Tmp}{type:TypeId}{pos:String}{after:Array Edge}{guard:Option (Nat×Bool)}{t:TypeId}{x:Operand}{ei:EI}{xs:List Operand}(hc:cOp P ⟨dst,.box t x,type,pos,after,guard⟩=some (.eff ei,xs)):EffOK P ⟨dst,.box t x,type,pos,after,guard⟩ ei xs:=by
 intro w0 μ H w ρ vs K r R hρ hv h;simp only[cOp,Option.some.injEq,Prod.mk.injEq,CIns.eff.injEq]at hc;obtain⟨rfl,rfl⟩:=hc;obtain⟨u,rfl,hu⟩:=VRs.inv1 hv;simp only[effK]at h;split at h
 ·rename_i ho;obtain⟨m,hm,hs,R',E'⟩:=new_closed R (e:=t) hu.cellsL (fun v hv=>List.all_eq_true.1 ho v hv);refine⟨_,_,_,_,.value _,_,h,?_,rfl,.ptr (AR.new hs),R',E'⟩;rw[hm];simp only[execOp,Instr.box,Sem.run_bind,Result.andThen_ok,run_newVar,Sem.run_pure,cells_eq]
 ·cases h
theorem VR.newSlice{m:MB}{b len cap:Nat}(hs:m.sh=0)(hl:len≤cap):VR (μ.add b m) (.slice (some ⟨b,0,none⟩) len cap) (.slice (some ⟨m.blk,0,none⟩) len cap):=.sl hl (.inl ⟨rfl,rfl,m,Mu.add_same _ _ _,rfl,.inl ⟨by simp[hs],rfl⟩⟩)
theorem eff_buildSl{dst:Option Tmp}{type:TypeId}{pos:String}{after:Array Edge}{guard:Option (Nat×Bool)}{t:TypeId}{len:Nat}{ps:Array (Nat×Operand)}{ei:EI}{xs:List Operand}(hc:cOp P ⟨dst,.buildSlice t len ps,type,pos,after,guard⟩=some (.eff ei,xs)):EffOK P ⟨dst,.buildSlice t len ps,type,pos,after,guard⟩ ei xs:=by
 intro w0 μ H w ρ vs K r R hρ hv h;simp only[cOp]at hc;split at hc
 ·rename_i el e;split at hc
  ·rename_i z hz;split at hc
   ·rename_i hk;simp only[Option.some.injEq,Prod.mk.injEq,CIns.eff.injEq]at hc;obtain⟨rfl,rfl⟩:=hc;obtain⟨z1,z2,z3,z4,z5⟩:=run_zeroValue (w:=w) hz;obtain⟨e1,e2,e3⟩:=rowParts_ok (size:=P.cellsOf el) (l:=ps.toList);simp only[effK]at h;obtain⟨cs,h1,h2⟩:=optK_some h;rw[e1]at hv;obtain⟨r',f1,f2,f3,f4⟩:=fill_ok (place:=fun i=>some (i*P.cellsOf el,P.cellsOf el)) (is:=ps.toList.map (·.1)) hv (VRs.rep z2 len) (rep_one z2 len) (by simp[e2]) e3 h1;obtain⟨m,hm,hs,R',E'⟩:=new_closed R (e:=el) f2 f3;refine⟨_,_,_,_,.value _,_,h2,?_,rfl,VR.newSlice hs (Nat.le_refl _),R',E'⟩;rw[hm];have f1':Instr.fill (fun i=>some (i*P.cellsOf el,P.cellsOf el)) (rep z len).toArray ((ps.map fun(p:Nat×Operand)=>(p.1,ρ p.2)).toList)=some r'.toArray:=by rw[Array.toList_map,zip_map];exact f1
    have ho:∀v∈z,one v=true:=fun v hv=>one_of_plain (List.all_eq_true.1 z2 v hv);simp only[execOp,Instr.buildSlice,Sem.run_bind,run_underlying e,Result.andThen_ok,run_sizeOf' z5];rw[if_neg (by omega)];by_cases hl:len*P.cellsOf el=0
    ·have:rep z len=[]:=List.length_eq_zero_iff.1 (by rw[rep_length,z3];exact hl);rw[this]at f1';rw[if_pos hl,hl];have e0:∀f:Nat→Value,(Array.range 0).map f= #[]:=fun f=>by simp
     simp only[Sem.run_bind,Sem.run_pure,Result.andThen_ok,e0];have f2':Instr.fill (fun i=>some (i*P.cellsOf el,P.cellsOf el)) #[] ((ps.map fun(p:Nat×Operand)=>(p.1,ρ p.2)).toList)=some r'.toArray:=f1';simp only[f2',Sem.run_bind,newRow,run_newObj,Result.andThen_ok,Sem.run_pure]
    ·rw[if_neg hl];have hr:=rep_eq z len;rw[z3]at hr;simp only[Sem.run_bind,z1,Result.andThen_ok,Sem.run_pure,cells_valT z4 ho,hr,f1',newRow,run_newObj]
   ·cases hc
  ·cases hc
 ·cases hc
end
section
variable{P:Program}{w0:Start}{μ:Mu}{H:Heap}{w:World}
theorem eff_mkSl{dst:Option Tmp}{type:TypeId}{pos:String}{after:Array Edge}{guard:Option (Nat×Bool)}{t:TypeId}{l c:Operand}{ei:EI}{xs:List Operand}(hc:cOp P ⟨dst,.makeSlice t l c,type,pos,after,guard⟩=some (.eff ei,xs)):EffOK P ⟨dst,.makeSlice t l c,type,pos,after,guard⟩ ei xs:=by
 intro w0 μ H w ρ vs K r R hρ hv h;simp only[cOp]at hc;split at hc
 ·rename_i el e;split at hc
  ·rename_i z hz;split at hc
   ·rename_i hk;simp only[Option.some.injEq,Prod.mk.injEq,CIns.eff.injEq]at hc;obtain⟨rfl,rfl⟩:=hc;obtain⟨u,v,rfl,hu,hu2⟩:=VRs.inv2 hv;simp only[effK]at h;obtain⟨k1,a,rfl,h1⟩:=asN_some h;obtain⟨k2,b,rfl,h2⟩:=asN_some h1;split at h2
    ·rename_i hb;obtain⟨b1,b2,b3,b4⟩:=hb;obtain⟨z1,z2,z3,z4,z5⟩:=run_zeroValue (w:=w) hz;have ho:∀v∈z,one v=true:=fun v hv=>one_of_plain (List.all_eq_true.1 z2 v hv);obtain⟨m,hm,hs,R',E'⟩:=new_closed R (e:=el) (VRs.rep z2 b.toNat) (rep_one z2 b.toNat);refine⟨_,_,_,_,.value _,_,h2,?_,rfl,VR.newSlice hs (by omega),R',E'⟩;rw[hm];obtain⟨i,hi⟩:=Option.isSome_iff_exists.1 z5;have hby:P.bytesOf el=i.bytes:=by simp[Program.bytesOf,hi]
     have w1:IntKind.i64.wrap a=a:=by simp only[IntKind.wrap,IntKind.bits,IntKind.signed];simp;omega
     have w2:IntKind.i64.wrap b=b:=by simp only[IntKind.wrap,IntKind.bits,IntKind.signed];simp;omega
     simp only[execOp,hu.int_inv,hu2.int_inv,Instr.makeSlice,Sem.run_bind,run_underlying e,Result.andThen_ok,asInt,asIntOf,Sem.run_pure,typeInfo,run_program,hi,w1,w2];have c1:((decide (b<0)||decide ((i.bytes:Int)*b>2^48))||decide (a<0)||decide (a>b))=false:=by
      rw[hby]at b3;have:(i.bytes:Int)*b≤140737488355328:=by rw[Int.mul_comm];exact b3
      simp;omega
     rw[if_neg (by rw[c1];simp)];simp only[Sem.run_bind,run_askRoom,Result.andThen_ok,run_sizeOf hi];have hsz:P.cellsOf el=i.size:=by simp[Program.cellsOf,hi]
     by_cases hl:b.toNat*i.size=0
     ·have:rep z b.toNat=[]:=List.length_eq_zero_iff.1 (by rw[rep_length,z3,hsz];exact hl);rw[if_pos hl,hl,this];have e0:∀f:Nat→Value,(Array.range 0).map f= #[]:=fun f=>by simp
      simp only[Sem.run_bind,Sem.run_pure,Result.andThen_ok,e0,newRow,run_newObj]
     ·rw[if_neg hl];have hr:=rep_eq z b.toNat;rw[z3,hsz]at hr;simp only[Sem.run_bind,z1,Result.andThen_ok,Sem.run_pure,cells_valT z4 ho,hr,newRow,run_newObj]
    ·cases h2
   ·cases hc
  ·cases hc
 ·cases hc
theorem st_ok(R:RR P w0 μ H w){a a':Addr}{l l':List Value}{H':Heap}(ha:AR μ a a')(hl:VRs μ l l')(ho:∀v∈l,one v=true)(hne:l≠[])(h:H.stN a l=some H'):∃w',(storeCells a' l').run P w=.ok () w'∧RR P w0 μ H' w'∧Ext μ H μ H':=by
 obtain⟨h1,h2,m,h3,h4,h5⟩:=ha;unfold Heap.stN at h;split at h
 ·rename_i c e o fz s hg;split at h
  ·rename_i hb;obtain⟨hb1,hb2⟩:=hb;simp only[Option.some.injEq]at h;subst h;obtain⟨c',fr,g1,g2⟩:=lookup_cells R h3 hg;obtain⟨_,⟨gl,gz⟩,go,ge,gs,gi,gc,g3,g4,g5⟩:=g2;obtain⟨ab,ao,as⟩:=a';simp only at h2 h4 h5;subst h2 h4 h5;have hlen:=hl.length;have hpos:0<l.length:=List.length_pos_iff.2 hne;have hrun:=run_storeCells (P:=P) (fr:=fr) (e:=e) (b:=m.blk) l' 0 (a.off+m.sh) c' w g1 (by rw[←hlen,gs];omega) (fun j j1 j2=>g4 j (by rw[←hlen]at j2;omega) (by omega) (fun _=>by rw[←hlen]at j2;omega)) (fun v hv=>by
    obtain⟨i,hi,rfl⟩:=List.mem_iff_getElem.1 hv;have hi':i<l.length:=by omega
    obtain⟨v',e1,e2⟩:=hl.get i _ (List.getElem?_eq_getElem hi');rw[List.getElem?_eq_getElem hi]at e1;cases e1;rw[e2.one_eq];exact ho _ (List.getElem_mem hi'))
   have hne':l'≠[]:=by intro hc;rw[hc]at hlen;simp at hlen;exact hne hlen
   rw[if_neg hne']at hrun;have hlow:w0.heap.size≤m.blk:=by refine R.own h3 hg ?_;intro c0 e0 h0;injection h0 with e1 e2 e3 e4 e5;subst e1;omega
   have hput:=R.put (o2:=.cells (splice c a.off l) e o fz s) (w':={w with heap:=w.heap.setIfInBounds m.blk (.cells (splice c'.toList (a.off+m.sh+0) l').toArray e fr)}) h3 hg hlow (o':=.cells (splice c'.toList (a.off+m.sh+0) l').toArray e fr) ?_ rfl
   ·exact⟨_,hrun,hput.1,hput.2⟩
   ·refine⟨rfl,by rw[splice_length hb1];exact⟨gl,gz⟩,go,ge,?_,gi,gc,?_,g4,g5⟩
    ·simp only[List.size_toArray];rw[splice_length (by simp only[Array.length_toList];omega)];simpa using gs
    ·intro i v hv;have hi:i<c.length:=by
      rcases Nat.lt_or_ge i (splice c a.off l).length with hx|hx
      ·rwa[splice_length hb1]at hx
      ·rw[List.getElem?_eq_none hx]at hv;cases hv
     simp only[Nat.add_zero,List.getElem?_toArray];have q1:∀{x y:List Value} {off k:Nat},off+y.length≤x.length→(splice x off y)[k]?=if k<off then x[k]? else if k<off+y.length then y[k-off]? else x[k]?:=by
      intro x y off k hxy;unfold splice;have l1:(x.take off).length=off:=by simp;omega
      by_cases hk:k<off
      ·rw[if_pos hk,List.append_assoc,List.getElem?_append_left (by omega),List.getElem?_take_of_lt hk]
      ·rw[if_neg hk,List.append_assoc,List.getElem?_append_right (by omega),l1];by_cases hk2:k<off+y.length
       ·rw[if_pos hk2,List.getElem?_append_left (by omega)]
       ·rw[if_neg hk2,List.getElem?_append_right (by omega),List.getElem?_drop]
        congr 1
        omega
     rw[q1 hb1]at hv;rw[q1 (by simp only[Array.length_toList];omega)];by_cases k1:i<a.off
     ·rw[if_pos k1]at hv;rw[if_pos (by omega)];simpa using g3 i v hv
     ·rw[if_neg k1]at hv;rw[if_neg (by omega)];by_cases k2:i<a.off+l.length
      ·rw[if_pos k2]at hv;rw[if_pos (by omega)];obtain⟨v',e1,e2⟩:=hl.get _ v hv;refine⟨ho v (List.mem_of_getElem? hv),v',?_,e2⟩;rw[←e1]
       congr 1
       omega
      ·rw[if_neg k2]at hv;rw[if_neg (by omega)];simpa using g3 i v hv
  ·cases h
 ·cases h
theorem st1_stN{a:Addr}{v:Value}{H':Heap}(h:H.st1 a v=some H'):H.stN a [v]=some H':=by
 unfold Heap.st1 at h;unfold Heap.stN;split at h
 ·rename_i c e o fz s hg;simp only[List.length_cons,List.length_nil];split at h
  ·rename_i hb;rw[if_pos (by omega)];simp only[Option.some.injEq]at h⊢;rw[←h]
   congr 2
   unfold splice;rw[List.set_eq_take_append_cons_drop,if_pos hb.1];simp
  ·cases h
 ·cases h
theorem eff_store{dst:Option Tmp}{type:TypeId}{pos:String}{after:Array Edge}{guard:Option (Nat×Bool)}{t:TypeId}{a y:Operand}{ei:EI}{xs:List Operand}(hc:cOp P ⟨dst,.store t a y,type,pos,after,guard⟩=some (.eff ei,xs)):EffOK P ⟨dst,.store t a y,type,pos,after,guard⟩ ei xs:=by
 intro w0 μ H w ρ vs K r R hρ hv h;simp only[cOp]at hc;split at hc
 ·rename_i hok;simp only[Option.some.injEq,Prod.mk.injEq,CIns.eff.injEq]at hc;obtain⟨rfl,rfl⟩:=hc;obtain⟨u,v,rfl,hu,hu2⟩:=VRs.inv2 hv
  match u,hu,h with
  | .pointer (some a1),hu,h=>
    obtain⟨a',e',ha⟩:=hu.ptr_inv;have hcl:=hu2.cellsL;have main:∀{H'},(cellsL v).length=P.cellsOf t→(∀x∈cellsL v,one x=true)→cellsL v≠[]→H.stN a1 (cellsL v)=some H'→K (.tuple #[]) H'=some r→∃v2 H' μ' v' nx w',K v2 H'=some r∧(execOp ρ ⟨dst,.store t a y,type,pos,after,guard⟩).run P w=.ok nx w'∧nxv nx=some v'∧VR μ' v2 v'∧RR P w0 μ' H' w'∧Ext μ H μ' H':=by
     intro H' q1 q2 q3 q4 q5;obtain⟨w',s1,s2,s3⟩:=st_ok R ha hcl q2 q3 q4;refine⟨_,_,_,_,.skip,_,q5,?_,rfl,VR.undef μ,s2,s3⟩;simp only[execOp,Instr.storeAt,e',Instr.sureAddr,Sem.run_bind,Sem.run_pure,Result.andThen_ok,storeVar,run_sizeOf' (info_some hok)];have:(ρ y).cells.size=P.cellsOf t:=by rw[cells_eq];simp only[List.size_toArray];rw[←hcl.length];exact q1
     rw[if_neg (by rw[this];simp)];rw[cells_eq];simp only[s1,Result.andThen_ok]
    simp only[effK]at h;split at h
    ·rename_i hn;split at h
     ·rename_i x hx;split at h
      ·rename_i ho;obtain⟨H',h1,h2⟩:=optK_some h;exact main (by rw[hx,hn];rfl) (by rw[hx];intro y hy;simp at hy;subst hy;exact ho) (by rw[hx];simp) (by rw[hx];exact st1_stN h1) h2
      ·cases h
     ·cases h
    ·split at h
     ·rename_i hb;obtain⟨H',h1,h2⟩:=optK_some h;exact main hb.1 (fun x hx=>List.all_eq_true.1 hb.2.1 x hx) (by intro hc;rw[hc]at hb;simp at hb;omega) h1 h2
     ·cases h
 ·cases hc
end
end Go.Cm
