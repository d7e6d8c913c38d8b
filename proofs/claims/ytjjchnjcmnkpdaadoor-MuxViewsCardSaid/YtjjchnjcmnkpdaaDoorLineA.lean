/-
  grid: rows of cells; new ones, copies.
-/
import Derived.Test.YtjjchnjcmnkpdaaDoorCmH
import Derived.Test.YtjjchnjcmnkpdaaDoorDecA
namespace Go.Proofs.YtjjchnjcmnkpdaaDoor.dec
open Go Go.Cm
attribute [local congr] optK_congr asI_congr asN_congr asB_congr asS_congr asP_congr asA_congr asSL_congr callK_congr castT_congr chk_congr
abbrev W:=List UInt8
theorem w64{n:Int}(h: -9223372036854775808≤n∧n≤9223372036854775807):IntKind.wrap .i64 n=n:=by unfold IntKind.wrap;simp only[IntKind.signed,IntKind.bits];simp;split<;>omega
theorem u64w{n:Int}(h:0≤n∧n<18446744073709551616):IntKind.wrap .u64 n=n:=by unfold IntKind.wrap;simp only[IntKind.signed,IntKind.bits];simp;omega
theorem NN_big(n:Nat)(h:n<3999999999999):n<NN:=by rw[NN_eq];omega
theorem wi{i:Nat}(h:i<4000000000000000000):IntKind.wrap .i64 ((i:Int)+1)=((i+1:Nat):Int):=by rw[w64 (by omega)];omega
structure Cl where
 r:Int
 f:Int
 b:Int
 s:Int
deriving DecidableEq
def cellV(c:Cl):List Value:=[.int .i32 c.r,.int .i64 c.f,.int .i64 c.b,.int .i64 c.s]
def blank:Cl:=⟨32,0,0,0⟩
def zeroC:Cl:=⟨0,0,0,0⟩
theorem cellV_len(c:Cl):(cellV c).length=4:=rfl
abbrev flat(L:List Cl):List Value:=L.flatMap cellV
theorem flat_ln(L:List Cl):(flat L).length=L.length*4:=fm_len cellV 4 cellV_len L
abbrev wsl(b n:Nat):Sl:=⟨some ⟨b,0,none⟩,n,n⟩
def Row(H:Heap)(b:Nat)(L:List Cl):Prop:=Whole H (wsl b L.length) (flat L) t_52 4
theorem Row.keep{S:Nat→Prop}{H H':Heap}{b:Nat}{L:List Cl}(h:Row H b L)(hk:Keep S H H')(hs:¬S b):Row H' b L:=Whole.keep h hk fun k ⟨_,e,hk⟩=>by cases e;subst hk;exact hs
theorem Row.lt{H:Heap}{b:Nat}{L:List Cl}(h:Row H b L):b<H.next:=Whole.lt h ⟨_,rfl,rfl⟩
theorem Row.vw{H:Heap}{b:Nat}{L:List Cl}(h:Row H b L):Vw H (wsl b L.length) b [] (flat L) [] t_52 4:=Whole.vw h
theorem Row.of{H:Heap}{b n:Nat}{L:List Cl}{A Z:List Value}(v:Vw H (wsl b n) b A (flat L) Z t_52 4)(hA:A=[])(hZ:Z=[]):Row H b L:=by
 subst hA hZ;have hn:=v.hn;rw[flat_ln]at hn;have e:n=L.length:=by simp at hn;omega
 subst e;obtain⟨_,_,_,h4,o,st,h5⟩:=v;exact .inr ⟨b,L.length,rfl,flat_ln L,h4,o,st,by simpa using h5⟩
def CV(H:Heap)(s:Sl)(b:Nat)(A cs Z:List Cl):Prop:=Vw H s b (flat A) (flat cs) (flat Z) t_52 4
theorem Row.cv{H:Heap}{b:Nat}{L:List Cl}(h:Row H b L):CV H (wsl b L.length) b [] L []:=h.vw
theorem CV.n{H:Heap}{s:Sl}{b:Nat}{A cs Z:List Cl}(h:CV H s b A cs Z):s.n=cs.length:=by have:=Vw.hn h;rw[flat_ln]at this;omega
theorem CV.row{H:Heap}{s:Sl}{b:Nat}{A cs Z:List Cl}(h:CV H s b A cs Z):Row H b (A++(cs++Z)):=by obtain⟨_,_,_,h4,o,st,h5⟩:=h;exact .inr ⟨b,_,rfl,flat_ln _,h4,o,st,by simpa[flat]using h5⟩
theorem CV.sub{H:Heap}{s:Sl}{b:Nat}{A cs Z:List Cl}(h:CV H s b A cs Z){l k:Nat}(h1:l≤k)(h2:k≤cs.length):CV H (subS s l k 4) b (A++cs.take l) ((cs.drop l).take (k-l)) (cs.drop k++Z):=by have hn:=h.n;have:=Vw.sub h h1 (by omega);rw[fm_take cellV 4 cellV_len,fm_drop cellV 4 cellV_len,fm_drop cellV 4 cellV_len,fm_take cellV 4 cellV_len,←List.flatMap_append,←List.flatMap_append]at this;exact this
theorem CV.s_lh{H:Heap}{s:Sl}{b:Nat}{A cs Z:List Cl}(h:CV H s b A cs Z){l k:Nat}{i j:IntKind}(h1:l≤k)(h2:k≤cs.length):readD (.subSl t_52 4 true true false) [s.v,.int i (l:Int),.int j (k:Int)] H=some (subS s l k 4).v:=by have hn:=h.n;exact Vw.s_lh h h1 (by omega)
theorem CV.s_l{H:Heap}{s:Sl}{b:Nat}{A cs Z:List Cl}(h:CV H s b A cs Z){l:Nat}{i:IntKind}(h2:l≤cs.length):readD (.subSl t_52 4 true false false) [s.v,.int i (l:Int)] H=some (subS s l cs.length 4).v:=by have hn:=h.n;rw[Vw.s_l h (by omega),hn]
theorem CV.s_h{H:Heap}{s:Sl}{b:Nat}{A cs Z:List Cl}(h:CV H s b A cs Z){k:Nat}{i:IntKind}(h2:k≤cs.length):readD (.subSl t_52 4 false true false) [s.v,.int i (k:Int)] H=some (subS s 0 k 4).v:=by have hn:=h.n;exact Vw.s_h h (by omega)
theorem CV.src{H:Heap}{s:Sl}{b:Nat}{A cs Z:List Cl}(h:CV H s b A cs Z){n:Nat}(hn:n≤cs.length):srcCells H 4 n s.v=some (flat (cs.take n)):=by have:=h.n;rw[Vw.src h (by omega),fm_take cellV 4 cellV_len]
theorem CV.copy{H:Heap}{s x:Sl}{b:Nat}{A cs Z:List Cl}(h:CV H s b A cs Z){new:List Cl}(h2:srcCells H 4 (min x.n cs.length) x.v=some (flat new))(h3:new.length=min x.n cs.length):∃H',(∀K,effK (.copy 4 false) [s.v,x.v] H K=K (.int .i64 (new.length:Int)) H')∧CV H' s b A (new++cs.drop new.length) Z∧Keep (fun k=>k=b) H H'∧H'.next=H.next:=by
 have hn:=h.n;obtain⟨H',e1,e2,e3,e4⟩:=Vw.copy h (x:=x.v) (m:=x.n) (str:=false) (flat new) (by omega) rfl (by rw[hn];exact h2) (by rw[flat_ln,hn,h3]);rw[flat_ln,fm_drop cellV 4 cellV_len,←List.flatMap_append]at e2;exact⟨H',fun K=>by rw[e1,hn,h3],e2,e3,e4⟩
theorem CV.keep{S:Nat→Prop}{H H':Heap}{s:Sl}{b:Nat}{A cs Z:List Cl}(h:CV H s b A cs Z)(hk:Keep S H H')(hs:¬S b):CV H' s b A cs Z:=Vw.keep h hk hs
theorem blank_s(d:Nat)(H:Heap):∃H',X (d+1) n_66 [] H=some (.agg ⟨cellV blank⟩,H')∧Keep0 H H':=by
 rw[grid_blank_eq];simp only[newK_s];have g:(H.new (.cells [.int .i32 0,.int .i64 0,.int .i64 0,.int .i64 0] t_52 false 0 false)).get H.next=some (.cells [.int .i32 0,.int .i64 0,.int .i64 0,.int .i64 0] t_52 false 0 false):=by simp
 have e:Heap.stN (H.new (.cells [.int .i32 0,.int .i64 0,.int .i64 0,.int .i64 0] t_52 false 0 false)) ⟨H.next,0,none⟩ [.int .i32 32,.int .i64 0,.int .i64 0,.int .i64 0]=some ((H.new (.cells [.int .i32 0,.int .i64 0,.int .i64 0,.int .i64 0] t_52 false 0 false)).put H.next (.cells (cellV blank) t_52 false 0 false)):=by simp only[Heap.stN,g];rfl
 rw[e];simp only[optK_s];refine⟨(H.new (.cells [.int .i32 0,.int .i64 0,.int .i64 0,.int .i64 0] t_52 false 0 false)).put H.next (.cells (cellV blank) t_52 false 0 false),?_,⟨by simp,fun k hk _=>by rw[Heap.get_put_ne _ _ (by omega),Heap.get_new_ne _ _ (by omega)]⟩⟩;have hr:readD (.load 4 true) [P0 H.next] ((H.new (.cells [.int .i32 0,.int .i64 0,.int .i64 0,.int .i64 0] t_52 false 0 false)).put H.next (.cells (cellV blank) t_52 false 0 false))=some (.agg ⟨cellV blank⟩):=by simp only[readD,if_true];rw[ldN_s (Heap.get_put_same _ H.next _) (by rw[cellV_len];omega)];rfl
 simp only[retK,resL,show Fr.get [(0,P0 H.next)] 0=some (P0 H.next)from rfl,hr]
theorem and32{n:Nat}(h:n<4294967296):bitsI .and .u64 (n:Int) 4294967295=(n:Int):=by
 have e1:(BitVec.ofInt 64 (n:Int)).toNat=n:=by rw[BitVec.toNat_ofInt];omega
 have e2:(BitVec.ofInt 64 4294967295).toNat=2^32-1:=by decide
 have e3:(BitVec.ofInt 64 (n:Int)&&&BitVec.ofInt 64 4294967295).toNat=n:=by rw[BitVec.toNat_and,e1,e2,Nat.and_two_pow_sub_one_eq_mod];omega
 show IntKind.wrap .u64 (((BitVec.ofInt 64 (n:Int)&&&BitVec.ofInt 64 4294967295).toNat:Nat):Int)=(n:Int);rw[e3,u64w (by omega)]
theorem Mul_s(d n:Nat)(hn:n≤1000)(H:Heap):X (d+2) n_81 [.int .u64 1,.int .u64 (n:Int)] H=some (.tuple #[.int .u64 0,.int .u64 (n:Int)],H):=by
 rw[math_bits_Mul_eq,math_bits_Mul64_eq];have f1:Int.fdiv 1 4294967296=0:=by decide
 have f2:Int.fdiv (n:Int) 4294967296=0:=by rw[Int.fdiv_eq_ediv_of_nonneg _ (by omega)];omega
 have b1:bitsI .and .u64 1 4294967295=1:=by decide
 have w0:IntKind.wrap .u64 0=0:=by decide
 have b0:bitsI .and .u64 0 4294967295=0:=by decide
 have z:Int.fdiv 0 4294967296=0:=by decide
 simp only[f1,f2,b1,and32 (show n<4294967296 by omega),Int.zero_mul,Int.mul_zero,Int.one_mul,w0,u64w (show 0≤(n:Int)∧(n:Int)<18446744073709551616 by omega),Int.add_zero,b0,z,callK_s,castT_s,castL_c,castL_n,cast0,asI_s,List.getElem?_cons_zero,List.getElem?_cons_succ,optK_s]
theorem rep_cells(c:Cl)(n:Nat):rep (cellV c) n=flat (List.replicate n c):=by
 induction n with
 |zero=>rfl
 |succ n ih=>simp only[rep,ih,List.replicate_succ,List.flatMap_cons]
theorem cellV_zero:[Value.int .i32 0,.int .i64 0,.int .i64 0,.int .i64 0]=cellV zeroC:=rfl
theorem Repeat_s(d n:Nat)(hn:n≤1000)(c:Cl)(p:Nat)(H:Heap)(hp:H.get p=some (.cells (cellV c) t_52 false 0 false))(hlt:p<H.next):∃b H',X (d+3) n_65 [.slice (some ⟨p,0,none⟩) 1 1,.int .i64 (n:Int)] H=some ((wsl b n).v,H')∧H.next≤b∧Row H' b (List.replicate n c)∧Keep0 H H':=by
 have e0:=slices_Repeat_S_api_Cell_api_Cell_eq (d+2) ⟨some ⟨p,0,none⟩,1,1⟩ (n:Int) H;simp only[Sl.v]at e0;rw[e0,if_neg (by simp),j31_eq];rw[show IntKind.wrap .u64 (((1:Nat):Int))=1 from by decide,u64w (by omega),Mul_s d n hn];simp only[callK_s,castT_s,castL_c,castL_n,cast0,asI_s,List.getElem?_cons_zero,List.getElem?_cons_succ,optK_s];rw[if_neg (by decide),j2z_eq,if_neg (by simp;omega),j32_eq,w64 (by omega)];have e1:∀K,effK (.mkSl t_52 4 32 [.int .i32 0,.int .i64 0,.int .i64 0,.int .i64 0]) [.int .i64 (n:Int),.int .i64 (n:Int)] H K=K (.slice (some ⟨H.next,0,none⟩) n n) (H.new (.cells (flat (List.replicate n zeroC)) t_52 false 0 false)):=fun K=>by simp only[effK,asN_s];rw[if_pos (by omega),Int.toNat_natCast,cellV_zero,rep_cells]
 rw[e1];simp only[asSL_s];have k1:Keep0 H (H.new (.cells (flat (List.replicate n zeroC)) t_52 false 0 false)):=Keep.new _ _;have v1:Vw (H.new (.cells (flat (List.replicate n zeroC)) t_52 false 0 false)) (wsl H.next n) H.next [] (flat (List.replicate n zeroC)) [] t_52 4:=⟨rfl,by rw[flat_ln,List.length_replicate],Nat.le_refl _,by simp,false,false,by simp⟩
 have vp:Vw (H.new (.cells (flat (List.replicate n zeroC)) t_52 false 0 false)) ⟨some ⟨p,0,none⟩,1,1⟩ p [] (cellV c) [] t_52 4:=⟨rfl,rfl,Nat.le_refl _,by simp;omega,false,false,by rw[Heap.get_new_ne _ _ (by omega)];simpa using hp⟩;generalize H.new (.cells (flat (List.replicate n zeroC)) t_52 false 0 false)=H1 at*;obtain⟨H2,e2,v2,k2,n2⟩:=v1.copy (x:=.slice (some ⟨p,0,none⟩) 1 1) (m:=1) (str:=false) (flat (List.replicate (min 1 n) c)) (by omega) rfl (by
  have:=vp.src (n:=min 1 n) (by show min 1 n≤1;omega);simp only[Sl.v]at this;rw[this];rcases Nat.eq_zero_or_pos n with h|h
  ·subst h;rfl
  ·rw[Nat.min_eq_left (by omega)];rfl) (by rw[flat_ln,List.length_replicate])
 rw[show∀(K:Value→Heap→Res),effK (.copy 4 false) [(⟨some ⟨H.next,0,none⟩,n,n⟩:Sl).v,.slice (some ⟨p,0,none⟩) 1 1] H1 K=_ from e2];simp only[asI_s];have hd:∀(j:Nat),j≤n→(flat (List.replicate j c)++(flat (List.replicate n zeroC)).drop (flat (List.replicate j c)).length)=flat (List.replicate j c++List.replicate (n-j) zeroC):=fun j hj=>by rw[flat_ln,fm_drop cellV 4 cellV_len,List.length_replicate,List.drop_replicate];simp[flat]
 have loop:∀(m j:Nat) (H3:Heap),j≤n→(n=0∨0<j)→n-j<m→CV H3 (wsl H.next n) H.next [] (List.replicate j c++List.replicate (n-j) zeroC) []→Keep (fun k=>k=H.next) H1 H3→
   ∃H',j2m (d+2) m (wsl H.next n) (j:Int) H3=some ((wsl H.next n).v,H')∧Row H' H.next (List.replicate n c)∧Keep (fun k=>k=H.next) H1 H':=by
  intro m;induction m with
  |zero=>intro j H3 _ _ h;omega
  |succ m ih=>
   intro j H3 hj h0 hm v k;rw[j2m_s];by_cases c1:j<n
   ·have hlen:(List.replicate j c++List.replicate (n-j) zeroC).length=n:=by simp;omega
    rw[if_pos (decide_eq_true (by show(j:Int)<(n:Int);omega)),v.s_l (by rw[hlen];omega)];simp only[optK_s,asSL_k,hlen];rw[v.s_h (by rw[hlen];omega)];simp only[optK_s,asSL_k];have va:=v.sub (l:=j) (k:=n) (by omega) (by simp;omega);have vb:=v.sub (l:=0) (k:=j) (by omega) (by simp);have t1:(List.replicate j c++List.replicate (n-j) zeroC).take j=List.replicate j c:=by rw[List.take_append_of_le_length (by simp),List.take_replicate,Nat.min_self]
    have t2:(List.replicate j c++List.replicate (n-j) zeroC).drop j=List.replicate (n-j) zeroC:=by rw[List.drop_append_of_le_length (by simp),List.drop_replicate,Nat.sub_self,List.replicate_zero,List.nil_append]
    have t3:(List.replicate j c++List.replicate (n-j) zeroC).drop n=[]:=List.drop_eq_nil_of_le (by simp;omega);rw[t1,t2,t3,List.take_replicate,Nat.min_self]at va;rw[List.drop_zero,Nat.sub_zero,t1]at vb;have hsb:(subS (wsl H.next n) 0 j 4).n=j:=rfl;obtain⟨H4,e4,v4,k4,n4⟩:=va.copy (x:=subS (wsl H.next n) 0 j 4) (new:=List.replicate (min j (n-j)) c) (by
     rw[List.length_replicate,hsb,vb.src (by rw[List.length_replicate];exact Nat.min_le_left _ _),List.take_replicate,Nat.min_eq_left (Nat.min_le_left _ _)]) (by rw[List.length_replicate,List.length_replicate,hsb])
    rw[e4];simp only[asI_s,List.length_replicate];have hjm:(j:Int)+((min j (n-j):Nat):Int)=((j+min j (n-j):Nat):Int):=by omega
    rw[hjm,w64 (by omega)];refine ih (j+min j (n-j)) H4 (by omega) (by omega) (by omega) ?_ (k.trans k4 fun _ _ h=>h);have hr:=v4.row.cv;have hl:[]++List.replicate j c++(List.replicate (min j (n-j)) c++(List.replicate (n-j) zeroC).drop (List.replicate (min j (n-j)) c).length++([]++[]))=List.replicate (j+min j (n-j)) c++List.replicate (n-(j+min j (n-j))) zeroC:=by rw[List.length_replicate,List.drop_replicate,List.nil_append,List.append_nil,List.append_nil,←List.append_assoc,List.replicate_append_replicate,Nat.sub_sub]
    rw[hl]at hr;have hln:(List.replicate (j+min j (n-j)) c++List.replicate (n-(j+min j (n-j))) zeroC).length=n:=by simp;omega
    rw[hln]at hr;exact hr
   ·have hjn:j=n:=by omega
    subst hjn;rw[if_neg (by rw[decide_eq_true_eq];show¬(j:Int)<(j:Int);omega)];rw[Nat.sub_self,List.replicate_zero,List.append_nil]at v;have hr:=v.row;simp only[List.nil_append,List.append_nil]at hr;exact⟨H3,rfl,hr,k⟩
 have v2':CV H2 (wsl H.next n) H.next [] (List.replicate (min 1 n) c++List.replicate (n-min 1 n) zeroC) []:=by rw[hd _ (Nat.min_le_right _ _)]at v2;exact v2
 obtain⟨H',f1,f2,f3⟩:=loop NN (min 1 n) H2 (Nat.min_le_right _ _) (by omega) (NN_big _ (by omega)) v2' k2;exact⟨H.next,H',f1,Nat.le_refl _,f2,Keep.fresh k1 f3 fun k e=>by omega⟩
theorem line_s(d n:Nat)(hn:n≤1000)(H:Heap):∃b H',X (d+4) n_52 [.int .i64 (n:Int)] H=some ((wsl b n).v,H')∧H.next≤b∧Row H' b (List.replicate n blank)∧Keep0 H H':=by
 rw[grid_line_eq];obtain⟨H2,e,k2⟩:=blank_s (d+2) H;rw[e];simp only[callK_s,asA_s];have hf:fillL [(0,4)] [.agg ⟨cellV blank⟩] [.int .i32 0,.int .i64 0,.int .i64 0,.int .i64 0]=some (cellV blank):=by rfl
 rw[hf];simp only[optK_s,newK_s];have k6:Keep0 H2 (H2.new (.cells (cellV blank) t_52 false 0 false)):=Keep.new _ _;obtain⟨b,H',f,hb,hr,k⟩:=Repeat_s d n hn blank H2.next (H2.new (.cells (cellV blank) t_52 false 0 false)) (by simp) (by simp)
 rw[f];simp only[callK_s,asSL_k];have n2:=k2.1;exact⟨b,H',rfl,by simp at hb;omega,hr,(k2.trans k6).trans k⟩
abbrev Q:=List (Nat×List Cl)
def rowV(x:Nat×List Cl):Value:=(wsl x.1 x.2.length).v
def bl(q:Q)(k:Nat):Prop:=∃x∈q,x.1=k
def Rows(H:Heap)(q:Q):Prop:=(∀x∈q,Row H x.1 x.2)∧(q.map Prod.fst).Nodup
def Outer(H:Heap)(s:Sl)(q:Q):Prop:=Whole H s (q.map rowV) t_41 1
theorem Outer.n{H:Heap}{s:Sl}{q:Q}(h:Outer H s q):s.n=q.length:=by have:=(Whole.len h).1;simp at this;omega
theorem Rows.keep{S:Nat→Prop}{H H':Heap}{q:Q}(h:Rows H q)(hk:Keep S H H')(hs:∀k,bl q k→¬S k):Rows H' q:=⟨fun x hx=>(h.1 x hx).keep hk (hs _ ⟨x,hx,rfl⟩),h.2⟩
theorem Rows.lt{H:Heap}{q:Q}(h:Rows H q){k:Nat}(hk:bl q k):k<H.next:=by obtain⟨x,hx,rfl⟩:=hk;exact(h.1 x hx).lt
theorem bl_nil{k:Nat}:¬bl [] k:=fun⟨_,h,_⟩=>by cases h
theorem bl_app{q q':Q}{k:Nat}:bl (q++q') k↔bl q k∨bl q' k:=by
 constructor
 ·rintro⟨x,hx,h⟩;rcases List.mem_append.1 hx with hx|hx
  ·exact .inl ⟨x,hx,h⟩
  ·exact .inr ⟨x,hx,h⟩
 ·rintro (⟨x,hx,h⟩|⟨x,hx,h⟩)
  ·exact⟨x,List.mem_append.2 (.inl hx),h⟩
  ·exact⟨x,List.mem_append.2 (.inr hx),h⟩
theorem Rows.app{H:Heap}{q q':Q}(h:Rows H q)(h':Rows H q')(hd:∀k,bl q k→¬bl q' k):Rows H (q++q'):=by refine⟨fun x hx=>(List.mem_append.1 hx).elim (h.1 x) (h'.1 x),?_⟩;rw[List.map_append,List.nodup_append];refine⟨h.2,h'.2,fun a ha b hb e=>?_⟩;obtain⟨x,hx,rfl⟩:=List.mem_map.1 ha;obtain⟨y,hy,rfl⟩:=List.mem_map.1 hb;exact hd x.1 ⟨x,hx,rfl⟩ ⟨y,hy,e.symm⟩
theorem Rows.sub{H:Heap}{q q':Q}(h:Rows H q)(hs:q'.Sublist q):Rows H q':=⟨fun x hx=>h.1 x (hs.subset hx),h.2.sublist (hs.map _)⟩
theorem bl_sub{q q':Q}(hs:q'.Sublist q){k:Nat}(h:bl q' k):bl q k:=by obtain⟨x,hx,e⟩:=h;exact⟨x,hs.subset hx,e⟩
theorem Outer.push{H:Heap}{s:Sl}{q:Q}(h:Outer H s q)(hq:q.length≤100000)(b:Nat)(L:List Cl):∃s' H',(∀K,appendK t_41 1 24 false s.v (.slice (some ⟨H.next,0,none⟩) 1 1) (H.new (.cells [(wsl b L.length).v] t_41 false 0 false)) K=K s'.v H')∧Outer H' s' (q++[(b,L)])∧Keep s.at H H'∧(∀k,s'.at k→H.next<k):=by
 have hn:=h.n;obtain⟨s',H',e1,e2,e3,_,e5,_⟩:=push_whole (bytes:=24) (new:=[(wsl b L.length).v]) h rfl (by omega) (by omega) (by omega);exact⟨s',H',e1,by unfold Outer;rw[List.map_append];exact e2,e3,e5⟩
theorem sheet_s(d r n:Nat)(hr:r≤1000)(hn:n≤1000)(H:Heap):∃s q H',X (d+5) n_50 [.int .i64 (r:Int),.int .i64 (n:Int)] H=some (Sl.v s,H')∧Outer H' s q∧Rows H' q∧q.map Prod.snd=List.replicate r (List.replicate n blank)∧(∀k,s.at k→H.next≤k)∧(∀k,bl q k→H.next≤k)∧(∀k,s.at k→¬bl q k)∧Keep0 H H':=by
 rw[grid_sheet_eq];have loop:∀(m i:Nat) (s:Sl) (q:Q) (H1:Heap),i≤r→r-i<m→Outer H1 s q→Rows H1 q→q.map Prod.snd=List.replicate i (List.replicate n blank)→(∀k,s.at k→H.next≤k)→(∀k,bl q k→H.next≤k)→(∀k,s.at k→¬bl q k)→Keep0 H H1→
   ∃y p H',j24 (d+4) m (n:Int) s (r:Int) (i:Int) H1=some (Sl.v y,H')∧Outer H' y p∧Rows H' p∧p.map Prod.snd=List.replicate r (List.replicate n blank)∧(∀k,y.at k→H.next≤k)∧(∀k,bl p k→H.next≤k)∧(∀k,y.at k→¬bl p k)∧Keep0 H H':=by
  intro m;induction m with
  |zero=>intro i s q H1 h1 h2;omega
  |succ m ih=>
   intro i s q H1 hi hm ho hq hL h1 h2 h3 hk;rw[j24_s];by_cases c:i<r
   ·rw[if_pos (decide_eq_true (by omega))];obtain⟨b,H2,e2,hb,hrow,k2⟩:=line_s d n hn H1;rw[e2];simp only[callK_s,asSL_k,newK_s];have ho2:Outer H2 s q:=Whole.keep ho k2 fun _ _ h=>h;have hq2:=hq.keep k2 fun _ _ h=>h;have hql:q.length=i:=by rw[←List.length_map (f:=Prod.snd),hL,List.length_replicate]
    obtain⟨s',H',e1,ho',k3,hs'⟩:=ho2.push (by omega) b (List.replicate n blank);rw[List.length_replicate]at e1;rw[show(⟨some ⟨b,0,none⟩,n,n⟩:Sl).v=(wsl b n).v from rfl]at*;rw[e1];simp only[asSL_k];rw[wi (by omega)];have hn1:=hk.1;have hn2:=k2.1;have hbH:∀k,s.at k→k<H1.next:=fun k h=>Whole.lt ho h
    refine ih (i+1) s' (q++[(b,List.replicate n blank)]) H' (by omega) (by omega) ho' ?_ ?_ (fun k h=>by have:=hs' k h;omega) (fun k h=>?_) (fun k h h'=>?_) ?_
    ·refine Rows.app (hq2.keep k3 fun k h h'=>h3 k h' h) ⟨fun x hx=>?_,by simp⟩ (fun k h ⟨x,hx,e⟩=>?_)
     ·simp only[List.mem_singleton]at hx;subst hx;exact hrow.keep k3 fun h=>by have:=hbH b h;omega
     ·simp only[List.mem_singleton]at hx;subst hx;have:=hq.lt h;simp only at e;omega
    ·rw[List.map_append,hL,List.map_cons,List.map_nil,List.replicate_succ']
    ·rcases bl_app.1 h with h|⟨x,hx,e⟩
     ·exact h2 k h
     ·simp only[List.mem_singleton]at hx;subst hx;simp only at e;omega
    ·have hlt:=hs' k h;rcases bl_app.1 h' with h'|⟨x,hx,e⟩
     ·have:=hq2.lt h';omega
     ·simp only[List.mem_singleton]at hx;subst hx;have:=hrow.lt;simp only at e;omega
    ·exact(hk.trans k2).fresh k3 h1
   ·rw[if_neg (by rw[decide_eq_true_eq];omega)];have:i=r:=by omega
    subst this;exact⟨s,q,H1,rfl,ho,hq,hL,h1,h2,h3,hk⟩
 have:=loop NN 0 Sl.nil [] H (by omega) (NN_big _ (by omega)) (.inl ⟨rfl,rfl⟩) ⟨(fun _ h=>nomatch h),by simp⟩ rfl (fun k h=>absurd h Sl.at_nil) (fun k h=>absurd h bl_nil) (fun k h=>absurd h Sl.at_nil) (Keep.refl _);exact this
theorem Clone_s(d:Nat){H:Heap}{s:Sl}{b:Nat}{A cs Z:List Cl}(v:CV H s b A cs Z)(hl:cs.length≤100000):∃y H',X (d+1) n_64 [s.v] H=some (Sl.v y,H')∧Whole H' y (flat cs) t_52 4∧(∀k,y.at k→H.next≤k)∧y.n=cs.length∧Keep0 H H':=by
 have hn:=v.n;rw[slices_Clone_S_api_Cell_api_Cell_eq,if_neg (by rw[Vw.sa v];simp),newK_s];have k1:Keep0 H (H.new (.cells [] t_52 false 0 false)):=Keep.new _ _;have w1:Whole (H.new (.cells [] t_52 false 0 false)) ⟨some ⟨H.next,0,none⟩,0,0⟩ [] t_52 4:=.inr ⟨H.next,0,rfl,rfl,by simp,false,false,by simp⟩;have v1:=v.keep k1 (fun h=>h);generalize hH1:H.new (.cells [] t_52 false 0 false)=H1 at*;have n1:H1.next=H.next+1:=by rw[←hH1];simp
 obtain⟨y,H',e1,e2,e3,e4,e5,_⟩:=append_whole (bytes:=32) (str:=false) (x:=s.v) (n:=s.n) (new:=flat cs) w1 rfl (by rw[v1.src (by omega),hn,List.take_length]) (by rw[flat_ln,hn]) (by show(0+s.n)*32≤_;omega) (by omega) (by omega);rw[show(Value.slice (some ⟨H.next,0,none⟩) 0 0)=(⟨some ⟨H.next,0,none⟩,0,0⟩:Sl).v from rfl,e1];simp only[asSL_k];refine⟨y,H',rfl,by simpa using e2,fun k hk=>?_,by rw[e5,hn];show 0+cs.length=_;omega,k1.fresh e3 fun k hk=>?_⟩
 ·rcases e4 k hk with ⟨_,h1,h2⟩|h
  ·cases h1;simp only at h2;omega
  ·omega
 ·obtain⟨_,h1,h2⟩:=hk;cases h1;simp only at h2;omega
theorem Whole.row{H:Heap}{y:Sl}{L:List Cl}(h:Whole H y (flat L) t_52 4)(hL:L≠[]):∃b,y=wsl b L.length∧Row H b L:=by
 rcases h with ⟨rfl,h⟩|⟨b,n,rfl,h1,h2,o,st,h3⟩
 ·have:=congrArg List.length h;rw[flat_ln]at this;cases L with
  |nil=>exact absurd rfl hL
  |cons _ _=>simp at this
 ·rw[flat_ln]at h1;have:n=L.length:=by omega
  subst this;exact⟨b,rfl,.inr ⟨b,_,rfl,flat_ln L,h2,o,st,h3⟩⟩
def OV(H:Heap)(s:Sl)(b:Nat)(A q Z:List Value):Prop:=Vw H s b A q Z t_41 1
theorem Outer.ov{H:Heap}{s:Sl}{q:Q}(h:Outer H s q)(hne:s.a≠none):∃b,OV H s b [] (q.map rowV) []∧s.at b:=Vw.of h hne
theorem Outer.some{H:Heap}{s:Sl}{q:Q}(h:Outer H s q)(hq:q≠[]):s.a≠none:=by
 rcases h with ⟨_,h⟩|⟨b,n,rfl,_⟩
 ·exact absurd (List.map_eq_nil_iff.1 h) hq
 ·simp
theorem OV.ld{H:Heap}{s:Sl}{b:Nat}{A Z:List Value}{q:Q}(h:OV H s b A (q.map rowV) Z){i:Nat}{x:Nat×List Cl}(hx:q[i]?=some x):∃a,s.a=some a∧Heap.ld1 H (ap a (i*1))=some (rowV x):=by refine⟨_,Vw.sa h,?_⟩;have:=Vw.ld h (i:=i) (x:=rowV x) (by simp[hx]);simpa[ap]using this
theorem copied_s(d:Nat){H:Heap}{s:Sl}{b:Nat}{A Z:List Value}{q:Q}(v:OV H s b A (q.map rowV) Z∨(s=Sl.nil∧q=[]))(hr:Rows H q)(hne:∀x∈q,x.2≠[]∧x.2.length≤1000)(hq:q.length≤10000):∃y p H',X (d+2) n_39 [s.v] H=some (Sl.v y,H')∧Outer H' y p∧Rows H' p∧p.map Prod.snd=q.map Prod.snd∧(∀k,y.at k→H.next≤k)∧(∀k,bl p k→H.next≤k)∧(∀k,y.at k→¬bl p k)∧Keep0 H H':=by
 rw[grid_copied_eq];have hn:s.n=q.length:=by
  rcases v with v|⟨rfl,rfl⟩
  ·have:=Vw.hn v;simp at this;omega
  ·rfl
 have loop:∀(m i:Nat) (y:Sl) (p:Q) (H1:Heap),i≤q.length→q.length-i<m→Outer H1 y p→Rows H1 p→p.map Prod.snd=(q.take i).map Prod.snd→(∀k,y.at k→H.next≤k)→(∀k,bl p k→H.next≤k)→(∀k,y.at k→¬bl p k)→Keep0 H H1→
   ∃y' p' H',j22 (d+1) m y s (s.n:Int) (i:Int) H1=some (Sl.v y',H')∧Outer H' y' p'∧Rows H' p'∧p'.map Prod.snd=q.map Prod.snd∧(∀k,y'.at k→H.next≤k)∧(∀k,bl p' k→H.next≤k)∧(∀k,y'.at k→¬bl p' k)∧Keep0 H H':=by
  intro m;induction m with
  |zero=>intro i y p H1 h1 h2;omega
  |succ m ih=>
   intro i y p H1 hi hm ho hp hL h1 h2 h3 hk;rw[j22_s];by_cases c:i<q.length
   ·rw[if_pos (decide_eq_true (by omega))];have hx:q[i]?=some q[i]:=List.getElem?_eq_getElem c;have hmem:q[i]∈q:=List.getElem_mem c;have htk:q.take (i+1)=q.take i++[q[i]]:=by rw[List.take_add_one,hx];rfl
    generalize q[i]=x at hx hmem htk;have v':OV H1 s b A (q.map rowV) Z:=by
     rcases v with v|⟨_,rfl⟩
     ·exact Vw.keep v hk id
     ·cases hx
    obtain⟨a,ea,eb⟩:=v'.ld hx;rw[ea];simp only[optK_s];rw[if_pos (by omega),Int.toNat_natCast,eb];simp only[optK_s,rowV,asSL_k2];have hrow:=(hr.1 x hmem).keep hk id;obtain⟨hx1,hx2⟩:=hne x hmem;obtain⟨z,H2,e2,w2,w3,_,k2⟩:=Clone_s d hrow.cv (by omega);rw[e2];simp only[callK_s,asSL_k,newK_s];obtain⟨b2,rfl,r2⟩:=Whole.row w2 hx1;have hb2:H1.next≤b2:=w3 b2 ⟨_,rfl,rfl⟩
    have ho2:Outer H2 y p:=Whole.keep ho k2 fun _ _ h=>h;have hp2:=hp.keep k2 fun _ _ h=>h;have hpl:p.length=i:=by rw[←List.length_map (f:=Prod.snd),hL,List.length_map,List.length_take];omega
    obtain⟨y',H',e1,ho',k3,hy'⟩:=ho2.push (by omega) b2 x.2;rw[e1];simp only[asSL_k];rw[wi (by omega)];have hn1:=hk.1;have hn2:=k2.1;have hbH:∀k,y.at k→k<H1.next:=fun k h=>Whole.lt ho h
    refine ih (i+1) y' (p++[(b2,x.2)]) H' (by omega) (by omega) ho' ?_ ?_ (fun k h=>by have:=hy' k h;omega) (fun k h=>?_) (fun k h h'=>?_) ?_
    ·refine Rows.app (hp2.keep k3 fun k h h'=>h3 k h' h) ⟨fun z hz=>?_,by simp⟩ (fun k h ⟨z,hz,e⟩=>?_)
     ·simp only[List.mem_singleton]at hz;subst hz;exact r2.keep k3 fun h=>by have:=hbH b2 h;omega
     ·simp only[List.mem_singleton]at hz;subst hz;have:=hp.lt h;simp only at e;omega
    ·rw[List.map_append,hL,htk,List.map_append];rfl
    ·rcases bl_app.1 h with h|⟨z,hz,e⟩
     ·exact h2 k h
     ·simp only[List.mem_singleton]at hz;subst hz;simp only at e;omega
    ·have hlt:=hy' k h;rcases bl_app.1 h' with h'|⟨z,hz,e⟩
     ·have:=hp2.lt h';omega
     ·simp only[List.mem_singleton]at hz;subst hz;have:=r2.lt;simp only at e;omega
    ·exact(hk.trans k2).fresh k3 h1
   ·rw[if_neg (by rw[decide_eq_true_eq];omega)];rw[List.take_of_length_le (by omega)]at hL;exact⟨y,p,H1,rfl,ho,hp,hL,h1,h2,h3,hk⟩
 exact loop NN 0 Sl.nil [] H (by omega) (NN_big _ (by omega)) (.inl ⟨rfl,rfl⟩) ⟨(fun _ h=>nomatch h),by simp⟩ rfl (fun k h=>absurd h Sl.at_nil) (fun k h=>absurd h bl_nil) (fun k h=>absurd h Sl.at_nil) (Keep.refl _)
structure Sc where
 rows:Nat
 cols:Nat
 row:Nat
 col:Nat
 due:Bool
 st:Cl
 srow:Nat
 scol:Nat
 sdue:Bool
 sst:Cl
 top:Nat
 bottom:Nat
 wrap:Bool
 insert:Bool
 hidden:Bool
 arow:Nat
 acol:Nat
 adue:Bool
 ast:Cl
structure G where
 c:Sc
 L:List (List Cl)
 tabs:List Bool
 other:Option (List (List Cl))
 past:List (List Cl)
structure GD where
 p:Nat
 pp:Nat
 cells:Sl
 q:Q
 tabs:Sl
 other:Sl
 oq:Q
 past:Sl
 pq:Q
def gridL(c:Sc)(D:GD):List Value:=[.int .i64 c.rows,.int .i64 c.cols,D.cells.v,.int .i64 c.row,.int .i64 c.col,.bool c.due,.int .i32 c.st.r,.int .i64 c.st.f,.int .i64 c.st.b,.int .i64 c.st.s,.int .i64 c.srow,.int .i64 c.scol,.bool c.sdue,.int .i32 c.sst.r,.int .i64 c.sst.f,.int .i64 c.sst.b,.int .i64 c.sst.s,.int .i64 c.top,.int .i64 c.bottom,.bool c.wrap,.bool c.insert,.bool c.hidden,D.tabs.v,D.other.v,.int .i64 c.arow,.int .i64 c.acol,.bool c.adue,.int .i32 c.ast.r,.int .i64 c.ast.f,.int .i64 c.ast.b,.int .i64 c.ast.s,D.past.v,P0 D.pp]
def GD.cmp(D:GD):Nat→Nat→Prop
 |0=>(· =D.p)
 |1=>D.cells.at
 |2=>bl D.q
 |3=>D.tabs.at
 |4=>D.other.at
 |5=>bl D.oq
 |6=>D.past.at
 |7=>bl D.pq
 |_=>fun _=>False
def GD.foot(D:GD)(k:Nat):Prop:=∃i,D.cmp i k
def PastO(H:Heap)(s:Sl)(q:Q):Prop:=(s=Sl.nil∧q=[])∨∃b A,OV H s b A (q.map rowV) []∧s.c=s.n
def OtherO(H:Heap)(s:Sl)(q:Q)(o:Option (List (List Cl))):Prop:=match o with
 |none=>s=Sl.nil∧q=[]
 |some M=>s.a≠none∧Outer H s q∧q.map Prod.snd=M
def TabO(H:Heap)(s:Sl)(cs:List Value):Prop:=(s=Sl.nil∧cs=[])∨∃b Z,Vw H s b [] cs Z t_4 1∧s.c=s.n
theorem TabO.of{H:Heap}{s:Sl}{cs:List Value}(h:Whole H s cs t_4 1):TabO H s cs:=by
 rcases h with ⟨h1,h2⟩|⟨b,n,rfl,h1,h2,o,st,h3⟩
 ·exact .inl ⟨h1,h2⟩
 ·exact .inr ⟨b,[],⟨rfl,h1,Nat.le_refl _,h2,o,st,by simpa using h3⟩,rfl⟩
theorem TabO.keep{S:Nat→Prop}{H H':Heap}{s:Sl}{cs:List Value}(h:TabO H s cs)(hk:Keep S H H')(hs:∀k,s.at k→¬S k):TabO H' s cs:=by
 rcases h with h|⟨b,Z,v,hc⟩
 ·exact .inl h
 ·exact .inr ⟨b,Z,v.keep hk (hs b v.at),hc⟩
theorem TabO.lt{H:Heap}{s:Sl}{cs:List Value}(h:TabO H s cs){k:Nat}(hk:s.at k):k<H.next:=by
 rcases h with ⟨rfl,_⟩|⟨b,Z,v,_⟩
 ·exact absurd hk Sl.at_nil
 ·obtain⟨a,h1,rfl⟩:=hk;rw[v.sa]at h1;cases h1;exact v.lt
theorem TabO.n{H:Heap}{s:Sl}{cs:List Value}(h:TabO H s cs):s.n=cs.length:=by
 rcases h with ⟨rfl,rfl⟩|⟨b,Z,v,_⟩
 ·rfl
 ·have:=v.hn;omega
theorem TabO.vw{H:Heap}{s:Sl}{cs:List Value}(h:TabO H s cs)(hn:0<cs.length):∃b Z,Vw H s b [] cs Z t_4 1∧s.c=s.n:=by
 rcases h with ⟨rfl,rfl⟩|h
 ·simp at hn
 ·exact h
structure Rep(H:Heap)(D:GD)(g:G):Prop where
 get:H.get D.p=some (.cells (gridL g.c D) t_96 false 0 false)
 lt:D.p<H.next
 co:Outer H D.cells D.q
 cr:Rows H D.q
 cL:D.q.map Prod.snd=g.L
 ta:TabO H D.tabs (g.tabs.map Value.bool)
 oo:OtherO H D.other D.oq g.other
 or:Rows H D.oq
 po:PastO H D.past D.pq
 pr:Rows H D.pq
 pL:D.pq.map Prod.snd=g.past
 sep:∀i j k,D.cmp i k→D.cmp j k→i=j
structure Stp(H:Heap)(D:GD)(H':Heap)(D':GD):Prop where
 p:D'.p=D.p
 pp:D'.pp=D.pp
 kp:Keep D.foot H H'
 ft:∀k,D'.foot k→D.foot k∨H.next≤k
theorem Stp.refl(H:Heap)(D:GD):Stp H D H D:=⟨rfl,rfl,Keep.refl _,fun _ h=>.inl h⟩
theorem Stp.trans{H H' H'':Heap}{D D' D'':GD}(h:Stp H D H' D')(h':Stp H' D' H'' D''):Stp H D H'' D'':=⟨h'.p.trans h.p,h'.pp.trans h.pp,h.kp.trans h'.kp fun k hk hf=>(h.ft k hf).elim id (fun e=>by omega),fun k hk=>by
 rcases h'.ft k hk with e|e
 ·exact h.ft k e
 ·have:=h.kp.1;exact .inr (by omega)⟩
theorem Stp.new{H H':Heap}{D:GD}(h:Keep0 H H'):Stp H D H' D:=⟨rfl,rfl,h.to,fun _ h=>.inl h⟩
theorem Stp.of{H H':Heap}{D:GD}{S:Nat→Prop}(h:Keep S H H')(hs:∀k,S k→D.foot k):Stp H D H' D:=⟨rfl,rfl,h.mono fun k _ e=>hs k e,fun _ h=>.inl h⟩
section
variable{H H':Heap}{D:GD}{g:G}{S:Nat→Prop}{i:Nat}
theorem Rep.o0(h:Rep H D g)(hk:Keep S H H')(hS:∀k,S k→D.cmp i k)(hi:i≠0):H'.get D.p=some (.cells (gridL g.c D) t_96 false 0 false):=(hk.2 _ h.lt fun e=>hi (h.sep _ _ _ (hS _ e) (show D.cmp 0 D.p from rfl))).trans h.get
theorem Rep.o1(h:Rep H D g)(hk:Keep S H H')(hS:∀k,S k→D.cmp i k)(hi:i≠1):Outer H' D.cells D.q:=Whole.keep h.co hk fun k e hs=>hi (h.sep _ _ k (hS k hs) (show D.cmp 1 k from e))
theorem Rep.o2(h:Rep H D g)(hk:Keep S H H')(hS:∀k,S k→D.cmp i k)(hi:i≠2):Rows H' D.q:=h.cr.keep hk fun k e hs=>hi (h.sep _ _ k (hS k hs) (show D.cmp 2 k from e))
theorem Rep.o3(h:Rep H D g)(hk:Keep S H H')(hS:∀k,S k→D.cmp i k)(hi:i≠3):TabO H' D.tabs (g.tabs.map Value.bool):=TabO.keep h.ta hk fun k e hs=>hi (h.sep _ _ k (hS k hs) (show D.cmp 3 k from e))
theorem OtherO.keep{s:Sl}{q:Q}{o:Option (List (List Cl))}(h:OtherO H s q o)(hk:Keep S H H')(hs:∀k,s.at k→¬S k):OtherO H' s q o:=by
 cases o with
 |none=>exact h
 |some M=>exact⟨h.1,Whole.keep h.2.1 hk hs,h.2.2⟩
theorem PastO.keep{s:Sl}{q:Q}(h:PastO H s q)(hk:Keep S H H')(hs:∀k,s.at k→¬S k):PastO H' s q:=by
 rcases h with h|⟨b,A,h,hc⟩
 ·exact .inl h
 ·exact .inr ⟨b,A,Vw.keep h hk (hs b (Vw.at h)),hc⟩
theorem Rep.o4(h:Rep H D g)(hk:Keep S H H')(hS:∀k,S k→D.cmp i k)(hi:i≠4):OtherO H' D.other D.oq g.other:=h.oo.keep hk fun k e hs=>hi (h.sep _ _ k (hS k hs) (show D.cmp 4 k from e))
theorem Rep.o5(h:Rep H D g)(hk:Keep S H H')(hS:∀k,S k→D.cmp i k)(hi:i≠5):Rows H' D.oq:=h.or.keep hk fun k e hs=>hi (h.sep _ _ k (hS k hs) (show D.cmp 5 k from e))
theorem Rep.o6(h:Rep H D g)(hk:Keep S H H')(hS:∀k,S k→D.cmp i k)(hi:i≠6):PastO H' D.past D.pq:=h.po.keep hk fun k e hs=>hi (h.sep _ _ k (hS k hs) (show D.cmp 6 k from e))
theorem Rep.o7(h:Rep H D g)(hk:Keep S H H')(hS:∀k,S k→D.cmp i k)(hi:i≠7):Rows H' D.pq:=h.pr.keep hk fun k e hs=>hi (h.sep _ _ k (hS k hs) (show D.cmp 7 k from e))
theorem Rep.new(h:Rep H D g)(hk:Keep0 H H'):Rep H' D g:=⟨h.o0 (i:=8) hk (fun _ e=>e.elim) (by decide),Nat.lt_of_lt_of_le h.lt hk.1,h.o1 (i:=8) hk (fun _ e=>e.elim) (by decide),h.o2 (i:=8) hk (fun _ e=>e.elim) (by decide),h.cL,h.o3 (i:=8) hk (fun _ e=>e.elim) (by decide),h.o4 (i:=8) hk (fun _ e=>e.elim) (by decide),h.o5 (i:=8) hk (fun _ e=>e.elim) (by decide),h.o6 (i:=8) hk (fun _ e=>e.elim) (by decide),h.o7 (i:=8) hk (fun _ e=>e.elim) (by decide),h.pL,h.sep⟩
theorem Rep.keep(h:Rep H D g)(hk:Keep S H H')(hs:∀k,D.foot k→¬S k):Rep H' D g:=by have c:∀i k,D.cmp i k→¬S k:=fun i k e=>hs k ⟨i,e⟩;exact⟨(hk.2 _ h.lt (c 0 _ rfl)).trans h.get,Nat.lt_of_lt_of_le h.lt hk.1,Whole.keep h.co hk (c 1),h.cr.keep hk (c 2),h.cL,TabO.keep h.ta hk (c 3),h.oo.keep hk (c 4),h.or.keep hk (c 5),h.po.keep hk (c 6),h.pr.keep hk (c 7),h.pL,h.sep⟩
theorem OtherO.lt{s:Sl}{q:Q}{o:Option (List (List Cl))}(h:OtherO H s q o){k:Nat}(hk:s.at k):k<H.next:=by
 cases o with
 |none=>obtain⟨rfl,_⟩:=h;exact absurd hk Sl.at_nil
 |some M=>exact Whole.lt h.2.1 hk
theorem PastO.lt{s:Sl}{q:Q}(h:PastO H s q){k:Nat}(hk:s.at k):k<H.next:=by
 rcases h with ⟨rfl,_⟩|⟨b,A,h,_⟩
 ·exact absurd hk Sl.at_nil
 ·obtain⟨a,h1,rfl⟩:=hk;rw[Vw.sa h]at h1;cases h1;exact Vw.lt h
theorem Rep.ltF(h:Rep H D g){k:Nat}(hk:D.foot k):k<H.next:=by
 obtain⟨i,hi⟩:=hk
 match i,hi with
 |0,e=>have e:k=D.p:=e;subst e;exact h.lt
 |1,e=>exact Whole.lt h.co e
 |2,e=>exact h.cr.lt e
 |3,e=>exact h.ta.lt e
 |4,e=>exact h.oo.lt e
 |5,e=>exact h.or.lt e
 |6,e=>exact h.po.lt e
 |7,e=>exact h.pr.lt e
theorem Rep.setc(h:Rep H D g)(c:Sc):Rep (H.put D.p (.cells (gridL c D) t_96 false 0 false)) D {g with c:=c}:=by have hk:Keep (fun k=>k=D.p) H (H.put D.p (.cells (gridL c D) t_96 false 0 false)):=Keep.put _ _ _ rfl;have hS:∀k,(fun k=>k=D.p) k→D.cmp 0 k:=fun k e=>e;exact⟨by simp,h.lt,h.o1 hk hS (by decide),h.o2 hk hS (by decide),h.cL,h.o3 hk hS (by decide),h.o4 hk hS (by decide),h.o5 hk hS (by decide),h.o6 hk hS (by decide),h.o7 hk hS (by decide),h.pL,h.sep⟩
theorem Stp.setc(_h:Rep H D g)(c:Sc):Stp H D (H.put D.p (.cells (gridL c D) t_96 false 0 false)) D:=Stp.of (Keep.put (S:=fun k=>k=D.p) _ _ _ rfl) fun _k e=>⟨0,e⟩
end
section
variable{H:Heap}{D:GD}{g:G}(h:Rep H D g)
include h
theorem Rep.l0:Heap.ld1 H ⟨D.p,0,none⟩=some (.int .i64 (g.c.rows:Int)):=(ld1_s h.get).trans rfl
theorem Rep.l1:Heap.ld1 H ⟨D.p,1,none⟩=some (.int .i64 (g.c.cols:Int)):=(ld1_s h.get).trans rfl
theorem Rep.l2:Heap.ld1 H ⟨D.p,2,none⟩=some (D.cells.v):=(ld1_s h.get).trans rfl
theorem Rep.l3:Heap.ld1 H ⟨D.p,3,none⟩=some (.int .i64 (g.c.row:Int)):=(ld1_s h.get).trans rfl
theorem Rep.l4:Heap.ld1 H ⟨D.p,4,none⟩=some (.int .i64 (g.c.col:Int)):=(ld1_s h.get).trans rfl
theorem Rep.l5:Heap.ld1 H ⟨D.p,5,none⟩=some (.bool g.c.due):=(ld1_s h.get).trans rfl
theorem Rep.l6:Heap.ld1 H ⟨D.p,6,none⟩=some (.int .i32 g.c.st.r):=(ld1_s h.get).trans rfl
theorem Rep.l7:Heap.ld1 H ⟨D.p,7,none⟩=some (.int .i64 g.c.st.f):=(ld1_s h.get).trans rfl
theorem Rep.l8:Heap.ld1 H ⟨D.p,8,none⟩=some (.int .i64 g.c.st.b):=(ld1_s h.get).trans rfl
theorem Rep.l9:Heap.ld1 H ⟨D.p,9,none⟩=some (.int .i64 g.c.st.s):=(ld1_s h.get).trans rfl
theorem Rep.l10:Heap.ld1 H ⟨D.p,10,none⟩=some (.int .i64 (g.c.srow:Int)):=(ld1_s h.get).trans rfl
theorem Rep.l11:Heap.ld1 H ⟨D.p,11,none⟩=some (.int .i64 (g.c.scol:Int)):=(ld1_s h.get).trans rfl
theorem Rep.l12:Heap.ld1 H ⟨D.p,12,none⟩=some (.bool g.c.sdue):=(ld1_s h.get).trans rfl
theorem Rep.l17:Heap.ld1 H ⟨D.p,17,none⟩=some (.int .i64 (g.c.top:Int)):=(ld1_s h.get).trans rfl
theorem Rep.l18:Heap.ld1 H ⟨D.p,18,none⟩=some (.int .i64 (g.c.bottom:Int)):=(ld1_s h.get).trans rfl
theorem Rep.l19:Heap.ld1 H ⟨D.p,19,none⟩=some (.bool g.c.wrap):=(ld1_s h.get).trans rfl
theorem Rep.l20:Heap.ld1 H ⟨D.p,20,none⟩=some (.bool g.c.insert):=(ld1_s h.get).trans rfl
theorem Rep.l21:Heap.ld1 H ⟨D.p,21,none⟩=some (.bool g.c.hidden):=(ld1_s h.get).trans rfl
theorem Rep.l22:Heap.ld1 H ⟨D.p,22,none⟩=some (D.tabs.v):=(ld1_s h.get).trans rfl
theorem Rep.l23:Heap.ld1 H ⟨D.p,23,none⟩=some (D.other.v):=(ld1_s h.get).trans rfl
theorem Rep.l24:Heap.ld1 H ⟨D.p,24,none⟩=some (.int .i64 (g.c.arow:Int)):=(ld1_s h.get).trans rfl
theorem Rep.l25:Heap.ld1 H ⟨D.p,25,none⟩=some (.int .i64 (g.c.acol:Int)):=(ld1_s h.get).trans rfl
theorem Rep.l26:Heap.ld1 H ⟨D.p,26,none⟩=some (.bool g.c.adue):=(ld1_s h.get).trans rfl
theorem Rep.l31:Heap.ld1 H ⟨D.p,31,none⟩=some (D.past.v):=(ld1_s h.get).trans rfl
theorem Rep.l32:Heap.ld1 H ⟨D.p,32,none⟩=some (P0 D.pp):=(ld1_s h.get).trans rfl
theorem Rep.s0(v:Nat):∃H',Heap.st1 H ⟨D.p,0,none⟩ (.int .i64 (v:Int))=some H'∧Rep H' D {g with c:={g.c with rows:=v}}∧Stp H D H' D:=⟨H.put D.p (.cells (gridL {g.c with rows:=v} D) t_96 false 0 false),(st1_s h.get (by show 0<33;omega) (by omega)).trans rfl,h.setc _,Stp.setc h _⟩
theorem Rep.s1(v:Nat):∃H',Heap.st1 H ⟨D.p,1,none⟩ (.int .i64 (v:Int))=some H'∧Rep H' D {g with c:={g.c with cols:=v}}∧Stp H D H' D:=⟨H.put D.p (.cells (gridL {g.c with cols:=v} D) t_96 false 0 false),(st1_s h.get (by show 1<33;omega) (by omega)).trans rfl,h.setc _,Stp.setc h _⟩
theorem Rep.s3(v:Nat):∃H',Heap.st1 H ⟨D.p,3,none⟩ (.int .i64 (v:Int))=some H'∧Rep H' D {g with c:={g.c with row:=v}}∧Stp H D H' D:=⟨H.put D.p (.cells (gridL {g.c with row:=v} D) t_96 false 0 false),(st1_s h.get (by show 3<33;omega) (by omega)).trans rfl,h.setc _,Stp.setc h _⟩
theorem Rep.s4(v:Nat):∃H',Heap.st1 H ⟨D.p,4,none⟩ (.int .i64 (v:Int))=some H'∧Rep H' D {g with c:={g.c with col:=v}}∧Stp H D H' D:=⟨H.put D.p (.cells (gridL {g.c with col:=v} D) t_96 false 0 false),(st1_s h.get (by show 4<33;omega) (by omega)).trans rfl,h.setc _,Stp.setc h _⟩
theorem Rep.s5(v:Bool):∃H',Heap.st1 H ⟨D.p,5,none⟩ (.bool v)=some H'∧Rep H' D {g with c:={g.c with due:=v}}∧Stp H D H' D:=⟨H.put D.p (.cells (gridL {g.c with due:=v} D) t_96 false 0 false),(st1_s h.get (by show 5<33;omega) (by omega)).trans rfl,h.setc _,Stp.setc h _⟩
theorem Rep.s10(v:Nat):∃H',Heap.st1 H ⟨D.p,10,none⟩ (.int .i64 (v:Int))=some H'∧Rep H' D {g with c:={g.c with srow:=v}}∧Stp H D H' D:=⟨H.put D.p (.cells (gridL {g.c with srow:=v} D) t_96 false 0 false),(st1_s h.get (by show 10<33;omega) (by omega)).trans rfl,h.setc _,Stp.setc h _⟩
theorem Rep.s11(v:Nat):∃H',Heap.st1 H ⟨D.p,11,none⟩ (.int .i64 (v:Int))=some H'∧Rep H' D {g with c:={g.c with scol:=v}}∧Stp H D H' D:=⟨H.put D.p (.cells (gridL {g.c with scol:=v} D) t_96 false 0 false),(st1_s h.get (by show 11<33;omega) (by omega)).trans rfl,h.setc _,Stp.setc h _⟩
theorem Rep.s12(v:Bool):∃H',Heap.st1 H ⟨D.p,12,none⟩ (.bool v)=some H'∧Rep H' D {g with c:={g.c with sdue:=v}}∧Stp H D H' D:=⟨H.put D.p (.cells (gridL {g.c with sdue:=v} D) t_96 false 0 false),(st1_s h.get (by show 12<33;omega) (by omega)).trans rfl,h.setc _,Stp.setc h _⟩
theorem Rep.s17(v:Nat):∃H',Heap.st1 H ⟨D.p,17,none⟩ (.int .i64 (v:Int))=some H'∧Rep H' D {g with c:={g.c with top:=v}}∧Stp H D H' D:=⟨H.put D.p (.cells (gridL {g.c with top:=v} D) t_96 false 0 false),(st1_s h.get (by show 17<33;omega) (by omega)).trans rfl,h.setc _,Stp.setc h _⟩
theorem Rep.s18(v:Nat):∃H',Heap.st1 H ⟨D.p,18,none⟩ (.int .i64 (v:Int))=some H'∧Rep H' D {g with c:={g.c with bottom:=v}}∧Stp H D H' D:=⟨H.put D.p (.cells (gridL {g.c with bottom:=v} D) t_96 false 0 false),(st1_s h.get (by show 18<33;omega) (by omega)).trans rfl,h.setc _,Stp.setc h _⟩
theorem Rep.s19(v:Bool):∃H',Heap.st1 H ⟨D.p,19,none⟩ (.bool v)=some H'∧Rep H' D {g with c:={g.c with wrap:=v}}∧Stp H D H' D:=⟨H.put D.p (.cells (gridL {g.c with wrap:=v} D) t_96 false 0 false),(st1_s h.get (by show 19<33;omega) (by omega)).trans rfl,h.setc _,Stp.setc h _⟩
theorem Rep.s20(v:Bool):∃H',Heap.st1 H ⟨D.p,20,none⟩ (.bool v)=some H'∧Rep H' D {g with c:={g.c with insert:=v}}∧Stp H D H' D:=⟨H.put D.p (.cells (gridL {g.c with insert:=v} D) t_96 false 0 false),(st1_s h.get (by show 20<33;omega) (by omega)).trans rfl,h.setc _,Stp.setc h _⟩
theorem Rep.s21(v:Bool):∃H',Heap.st1 H ⟨D.p,21,none⟩ (.bool v)=some H'∧Rep H' D {g with c:={g.c with hidden:=v}}∧Stp H D H' D:=⟨H.put D.p (.cells (gridL {g.c with hidden:=v} D) t_96 false 0 false),(st1_s h.get (by show 21<33;omega) (by omega)).trans rfl,h.setc _,Stp.setc h _⟩
theorem Rep.s24(v:Nat):∃H',Heap.st1 H ⟨D.p,24,none⟩ (.int .i64 (v:Int))=some H'∧Rep H' D {g with c:={g.c with arow:=v}}∧Stp H D H' D:=⟨H.put D.p (.cells (gridL {g.c with arow:=v} D) t_96 false 0 false),(st1_s h.get (by show 24<33;omega) (by omega)).trans rfl,h.setc _,Stp.setc h _⟩
theorem Rep.s25(v:Nat):∃H',Heap.st1 H ⟨D.p,25,none⟩ (.int .i64 (v:Int))=some H'∧Rep H' D {g with c:={g.c with acol:=v}}∧Stp H D H' D:=⟨H.put D.p (.cells (gridL {g.c with acol:=v} D) t_96 false 0 false),(st1_s h.get (by show 25<33;omega) (by omega)).trans rfl,h.setc _,Stp.setc h _⟩
theorem Rep.s26(v:Bool):∃H',Heap.st1 H ⟨D.p,26,none⟩ (.bool v)=some H'∧Rep H' D {g with c:={g.c with adue:=v}}∧Stp H D H' D:=⟨H.put D.p (.cells (gridL {g.c with adue:=v} D) t_96 false 0 false),(st1_s h.get (by show 26<33;omega) (by omega)).trans rfl,h.setc _,Stp.setc h _⟩
theorem Rep.s7(v:Int):∃H',Heap.st1 H ⟨D.p,7,none⟩ (.int .i64 v)=some H'∧Rep H' D {g with c:={g.c with st:={g.c.st with f:=v}}}∧Stp H D H' D:=⟨H.put D.p (.cells (gridL {g.c with st:={g.c.st with f:=v}} D) t_96 false 0 false),(st1_s h.get (by show 7<33;omega) (by omega)).trans rfl,h.setc _,Stp.setc h _⟩
theorem Rep.s8(v:Int):∃H',Heap.st1 H ⟨D.p,8,none⟩ (.int .i64 v)=some H'∧Rep H' D {g with c:={g.c with st:={g.c.st with b:=v}}}∧Stp H D H' D:=⟨H.put D.p (.cells (gridL {g.c with st:={g.c.st with b:=v}} D) t_96 false 0 false),(st1_s h.get (by show 8<33;omega) (by omega)).trans rfl,h.setc _,Stp.setc h _⟩
theorem Rep.s9(v:Int):∃H',Heap.st1 H ⟨D.p,9,none⟩ (.int .i64 v)=some H'∧Rep H' D {g with c:={g.c with st:={g.c.st with s:=v}}}∧Stp H D H' D:=⟨H.put D.p (.cells (gridL {g.c with st:={g.c.st with s:=v}} D) t_96 false 0 false),(st1_s h.get (by show 9<33;omega) (by omega)).trans rfl,h.setc _,Stp.setc h _⟩
end
structure WF(g:G):Prop where
 r1:1≤g.c.rows
 r2:g.c.rows≤60
 c1:1≤g.c.cols
 c2:g.c.cols≤120
 row:g.c.row<g.c.rows
 col:g.c.col<g.c.cols
 top:g.c.top<g.c.rows
 tb:g.c.top≤g.c.bottom
 bot:g.c.bottom<g.c.rows
 srow:g.c.srow≤1000
 scol:g.c.scol≤1000
 arow:g.c.arow<g.c.rows
 acol:g.c.acol<g.c.cols
 Ln:g.L.length=g.c.rows
 Lw:∀l∈g.L,l.length=g.c.cols
 tn:g.tabs.length=g.c.cols
 on:∀M,g.other=some M→M.length=g.c.rows∧∀l∈M,l.length=g.c.cols
 pn:g.past.length≤200
 pw:∀l∈g.past,l≠[]∧l.length≤120
def G.move(g:G)(row col:Int):G:={g with c:={g.c with row:=(min (max row 0) ((g.c.rows:Int)-1)).toNat,col:=(min (max col 0) ((g.c.cols:Int)-1)).toNat,due:=false}}
theorem move_s(d:Nat){H:Heap}{D:GD}{g:G}(h:Rep H D g)(w:WF g)(row col:Int):∃H',X (d+1) n_75 [P0 D.p,.int .i64 row,.int .i64 col] H=some (.tuple #[],H')∧Rep H' D (g.move row col)∧Stp H D H' D:=by
 have r1:=w.r1;have r2:=w.r2;have c1:=w.c1;have c2:=w.c2;rw[grid_Grid_move_eq,h.l0,h.l1];simp only[optK_s,asI_s];have e1:(if(IntKind.wrap .i64 ((g.c.rows:Int)-1))<(if row<0 then 0 else row)then(IntKind.wrap .i64 ((g.c.rows:Int)-1))else(if row<0 then 0 else row))=(((min (max row 0) ((g.c.rows:Int)-1)).toNat:Nat):Int):=by rw[w64 (by omega)];split<;>split<;>omega
 have e2:(if(IntKind.wrap .i64 ((g.c.cols:Int)-1))<(if col<0 then 0 else col)then(IntKind.wrap .i64 ((g.c.cols:Int)-1))else(if col<0 then 0 else col))=(((min (max col 0) ((g.c.cols:Int)-1)).toNat:Nat):Int):=by rw[w64 (by omega)];split<;>split<;>omega
 rw[e1,e2];obtain⟨H1,f1,h1,s1⟩:=h.s3 (min (max row 0) ((g.c.rows:Int)-1)).toNat;rw[f1];simp only[optK_s];obtain⟨H2,f2,h2,s2⟩:=h1.s4 (min (max col 0) ((g.c.cols:Int)-1)).toNat;rw[f2];simp only[optK_s];obtain⟨H3,f3,h3,s3⟩:=h2.s5 false;rw[f3];simp only[optK_s];exact⟨H3,rfl,h3,(s1.trans s2).trans s3⟩
theorem WF.move{g:G}(w:WF g)(row col:Int):WF (g.move row col):=by obtain⟨h1,h2,h3,h4,h5,h6,h7,h8,h9,h10,h11,h12,h13,h14,h15,h16,h17,h18,h19⟩:=w;exact⟨h1,h2,h3,h4,by simp only[G.move];omega,by simp only[G.move];omega,h7,h8,h9,h10,h11,h12,h13,h14,h15,h16,h17,h18,h19⟩
theorem sep_of{D D':GD}{N:Nat}(hs:∀i j k,D.cmp i k→D.cmp j k→i=j)(h1:∀i k,D'.cmp i k→D.cmp i k∨N≤k)(h2:∀i j k,N≤k→D'.cmp i k→D'.cmp j k→i=j):∀i j k,D'.cmp i k→D'.cmp j k→i=j:=fun i j k hi hj=>by
 rcases Nat.lt_or_ge k N with h|h
 ·exact hs i j k ((h1 i k hi).elim id fun e=>by omega) ((h1 j k hj).elim id fun e=>by omega)
 ·exact h2 i j k h hi hj
theorem cmp_past{D:GD}{s:Sl}{p:Q}:∀{i k:Nat},({D with past:=s,pq:=p}:GD).cmp i k→(i=6∧s.at k)∨(i=7∧bl p k)∨D.cmp i k
 |0,_,h=>.inr (.inr h)
 |1,_,h=>.inr (.inr h)
 |2,_,h=>.inr (.inr h)
 |3,_,h=>.inr (.inr h)
 |4,_,h=>.inr (.inr h)
 |5,_,h=>.inr (.inr h)
 |6,_,h=>.inl ⟨rfl,h⟩
 |7,_,h=>.inr (.inl ⟨rfl,h⟩)
theorem cmp_cells{D:GD}{s:Sl}{p:Q}:∀{i k:Nat},({D with cells:=s,q:=p}:GD).cmp i k→(i=1∧s.at k)∨(i=2∧bl p k)∨D.cmp i k
 |0,_,h=>.inr (.inr h)
 |1,_,h=>.inl ⟨rfl,h⟩
 |2,_,h=>.inr (.inl ⟨rfl,h⟩)
 |3,_,h=>.inr (.inr h)
 |4,_,h=>.inr (.inr h)
 |5,_,h=>.inr (.inr h)
 |6,_,h=>.inr (.inr h)
 |7,_,h=>.inr (.inr h)
theorem cmp_lt{H:Heap}{D:GD}{g:G}(h:Rep H D g){i k:Nat}(e:D.cmp i k):k<H.next:=h.ltF ⟨i,e⟩
theorem rd1{H:Heap}{a:Addr}{v:Value}(h:Heap.ld1 H a=some v):readD (.load 1 false) [.pointer (some a)] H=some v:=h
theorem PastO.push{H:Heap}{s:Sl}{q:Q}(h:PastO H s q)(hq:q.length≤100000)(v:Value):∃s' H',(∀K,appendK t_41 1 24 false s.v (.slice (some ⟨H.next,0,none⟩) 1 1) (H.new (.cells [v] t_41 false 0 false)) K=K s'.v H')∧Whole H' s' (q.map rowV++[v]) t_41 1∧Keep s.at H H'∧(∀k,s'.at k→H.next<k)∧s'.n=q.length+1:=by
 rcases h with ⟨rfl,rfl⟩|⟨b,A,h,hc⟩
 ·obtain⟨s',H',e1,e2,e3,_,e5,e6⟩:=push_whole (H:=H) (s:=Sl.nil) (cs:=[]) (e:=t_41) (sz:=1) (bytes:=24) (new:=[v]) (.inl ⟨rfl,rfl⟩) rfl (by show(0+1)*24≤_;omega) (by omega) (by omega);exact⟨s',H',e1,e2,e3,e5,e6⟩
 ·obtain⟨a1,a2,_,a4,o,st,a5⟩:=h;rw[List.append_nil]at a5;have hn:s.n=q.length:=by simp at a2;omega
  have hne:H.next≠b:=by omega
  have g1:(H.new (.cells [v] t_41 false 0 false)).get b=some (.cells (A++q.map rowV) t_41 o 0 st):=by rw[Heap.get_new_ne _ _ (by omega)];exact a5
  have hsrc:srcCells (H.new (.cells [v] t_41 false 0 false)) 1 1 (.slice (some ⟨H.next,0,none⟩) 1 1)=some [v]:=by simp only[srcCells];rw[if_neg (by omega),ldN_s (Heap.get_new_same H _) (by simp)];rfl
  have hcl:(A++q.map rowV).length=A.length+s.n:=by simp[hn]
  have htake:((A++q.map rowV).drop A.length).take (s.n*1)=q.map rowV:=by rw[List.drop_left' rfl,List.take_of_length_le (by simp[hn])]
  have ht2:List.take s.n (List.map rowV q)=List.map rowV q:=List.take_of_length_le (by simp[hn]);have hex:exact 1 (A++q.map rowV).length A.length s.n o= !o:=by unfold exact;rw[hcl];cases o<;>simp
  have fin:∀H1:Heap,H1.next=H.next+1→(∀k,k<H.next→k≠b→H1.get k=H.get k)→∀st2,Whole (H1.new (.cells (q.map rowV++[v]) t_41 true 0 st2)) ⟨some ⟨H1.next,0,none⟩,s.n+1,s.n+1⟩ (q.map rowV++[v]) t_41 1∧Keep s.at H (H1.new (.cells (q.map rowV++[v]) t_41 true 0 st2)):=fun H1 e1 e2 st2=>
   ⟨.inr ⟨_,_,rfl,by simp[hn],by simp,true,st2,by simp⟩,by simp[e1];omega,fun k hk hs=>by rw[Heap.get_new_ne _ _ (by omega)];exact e2 k hk fun h=>hs ⟨_,a1,h.symm⟩⟩
  by_cases ho:o=true
  ·subst ho;obtain⟨k1,k2⟩:=fin ((H.new (.cells [v] t_41 false 0 false)).kill b) (by simp) (fun k hk hb=>by rw[Heap.get_kill_ne _ hb,Heap.get_new_ne _ _ (by omega)]) st;refine⟨⟨some ⟨((H.new (.cells [v] t_41 false 0 false)).kill b).next,0,none⟩,s.n+1,s.n+1⟩,_,fun K=>?_,k1,k2,?_,by show s.n+1=_;omega⟩
   ·simp only[appendK,asSl,Sl.v,srcN,optK,hsrc,a1,g1,hc];rw[if_neg (by omega),if_pos (by omega),if_pos (by rw[hcl];omega),hex];simp[ht2]
   ·rintro k ⟨a,h,rfl⟩;cases h;simp
  ·have ho:o=false:=by simpa using ho
   subst ho;obtain⟨k1,k2⟩:=fin (H.new (.cells [v] t_41 false 0 false)) (by simp) (fun k hk hb=>by rw[Heap.get_new_ne _ _ (by omega)]) false;refine⟨⟨some ⟨(H.new (.cells [v] t_41 false 0 false)).next,0,none⟩,s.n+1,s.n+1⟩,_,fun K=>?_,k1,k2,?_,by show s.n+1=_;omega⟩
   ·simp only[appendK,asSl,Sl.v,srcN,optK,hsrc,a1,g1,hc];rw[if_neg (by omega),if_pos (by omega),if_pos (by rw[hcl];omega),hex];simp[ht2]
   ·rintro k ⟨a,h,rfl⟩;cases h;simp
theorem PastO.of{H:Heap}{s:Sl}{q:Q}(h:Whole H s (q.map rowV) t_41 1):PastO H s q:=by
 rcases h with ⟨rfl,h⟩|⟨b,n,rfl,h1,h2,o,st,h3⟩
 ·exact .inl ⟨rfl,List.map_eq_nil_iff.1 h⟩
 ·exact .inr ⟨b,[],⟨rfl,h1,Nat.le_refl _,h2,o,st,by simpa using h3⟩,rfl⟩
theorem PastO.n{H:Heap}{s:Sl}{q:Q}(h:PastO H s q):s.n=q.length:=by
 rcases h with ⟨rfl,rfl⟩|⟨b,A,h,_⟩
 ·rfl
 ·have:=Vw.hn h;simp at this;omega
def G.keep(g:G)(l:List Cl):G:={g with past:=(g.past++[l]).drop ((g.past++[l]).length-200)}
structure OnlyP(D D':GD):Prop where
 p:D'.p=D.p
 pp:D'.pp=D.pp
 cells:D'.cells=D.cells
 q:D'.q=D.q
 tabs:D'.tabs=D.tabs
 other:D'.other=D.other
 oq:D'.oq=D.oq
set_option maxRecDepth 100000 in
theorem keep_s(d:Nat){H:Heap}{D:GD}{g:G}(h:Rep H D g)(wpn:g.past.length≤200){b:Nat}{L:List Cl}(r:Row H b L)(hL:L≠[])(hL2:L.length≤120):∃H' D',X (d+2) n_53 [P0 D.p,(wsl b L.length).v] H=some (.tuple #[],H')∧Rep H' D' (g.keep L)∧Stp H D H' D'∧OnlyP D D'∧Keep (fun k=>k=D.p∨D.past.at k) H H':=by
 rw[grid_Grid_keep_eq,h.l31];simp only[optK_s,asSL_k];obtain⟨y,H4,e4,w4,f4,_,k4⟩:=Clone_s d r.cv (by omega);rw[e4];simp only[callK_s,asSL_k,newK_s];obtain⟨b2,rfl,r2⟩:=Whole.row w4 hL;have hb2:=f4 b2 ⟨_,rfl,rfl⟩;have h4:=h.new k4;have hpn:D.pq.length=g.past.length:=by rw[←h.pL,List.length_map]
 obtain⟨s',H9,e9,w9,k9,f9,n9⟩:=h4.po.push (by omega) (wsl b2 L.length).v;have k7:Keep0 H4 (H4.new (.cells [(wsl b2 L.length).v] t_41 false 0 false)):=Keep.new _ _;have h7:=h4.new k7;rw[e9];simp only[asSL_k];have n4:=k4.1;have n9':=k9.1;have kS:∀k,D.past.at k→D.cmp 6 k:=fun k e=>e;have g9:=h4.o0 k9 kS (by decide);have hst:Heap.st1 H9 ⟨D.p,31,none⟩ s'.v=some (H9.put D.p (.cells (gridL g.c {D with past:=s'}) t_96 false 0 false)):=(st1_s g9 (by show 31<33;omega) (by omega)).trans rfl;rw[hst];simp only[optK_s];generalize hH11:H9.put D.p (.cells (gridL g.c {D with past:=s'}) t_96 false 0 false)=H11;have g11:H11.get D.p=some (.cells (gridL g.c {D with past:=s'}) t_96 false 0 false):=by subst hH11;simp
 have k11:Keep (fun k=>k=D.p) H9 H11:=by subst hH11;exact Keep.put _ _ _ rfl
 have n11:H11.next=H9.next:=by subst hH11;rfl
 have rd:rdsOk [H,H4,H4.new (.cells [(wsl b2 L.length).v] t_41 false 0 false),H9,H11] [⟨.load 1 false,[.pointer (some ⟨D.p,31,none⟩)],D.past.v,0,2⟩]=true:=by simp only[rdsOk,Bool.and_true];rw[show 2+1-0=3 from rfl,rdOk_3,rdAt_s rfl (rd1 h.l31) (same_sl _ _ _),rdAt_s rfl (rd1 h4.l31) (same_sl _ _ _),rdAt_s rfl (rd1 h7.l31) (same_sl _ _ _)];rfl
 rw[rd];simp only[chk_s];have l11:Heap.ld1 H11 ⟨D.p,31,none⟩=some s'.v:=(ld1_s g11).trans rfl;rw[l11];simp only[optK_s,asSL_k];have kall:Keep (fun k=>k=D.p∨D.past.at k) H H11:=(k4.to.trans (k9.mono (T:=fun k=>k=D.p∨D.past.at k) fun _ _ e=>.inr e) fun _ _ e=>e).trans (k11.mono (T:=fun k=>k=D.p∨D.past.at k) fun _ _ e=>.inl e) fun _ _ e=>e;have ap:∀i k,i≠0→i≠6→D.cmp i k→¬(k=D.p∨D.past.at k):=fun i k h0 h6 e hk=>by
  rcases hk with rfl|hk
  ·exact h0 (h.sep _ _ _ e (show D.cmp 0 D.p from rfl))
  ·exact h6 (h.sep _ _ _ e (show D.cmp 6 k from hk))
 have hrows:Rows H11 (D.pq++[(b2,L)]):=by
  refine Rows.app (h.pr.keep kall fun k e=>ap 7 k (by decide) (by decide) e) ⟨fun x hx=>?_,by simp⟩ fun k hk ⟨x,hx,e⟩=>?_
  ·simp only[List.mem_singleton]at hx;subst hx;refine(r2.keep k9 fun e=>?_).keep k11 fun e=>?_
   ·have:=h.po.lt e;omega
   ·have:=h.lt;omega
  ·simp only[List.mem_singleton]at hx;subst hx;have:=h.pr.lt hk;simp only at e;omega
 have hp11:PastO H11 s' (D.pq++[(b2,L)]):=by refine PastO.of ?_;rw[List.map_append];exact Whole.keep w9 k11 fun k e hk=>by have:=f9 k e;have:=h.lt;omega
 have hlen:(D.pq++[(b2,L)]).length=g.past.length+1:=by simp[hpn]
 have hpL:(D.pq++[(b2,L)]).map Prod.snd=g.past++[L]:=by rw[List.map_append,h.pL];rfl
 have hsn:s'.n=g.past.length+1:=by rw[n9,hpn]
 have fin:∀(H5:Heap) (s5:Sl) (p5:Q),Keep (fun k=>k=D.p) H11 H5→H5.get D.p=some (.cells (gridL g.c {D with past:=s5}) t_96 false 0 false)→PastO H5 s5 p5→p5.Sublist (D.pq++[(b2,L)])→(∀k,s5.at k→s'.at k)→p5.map Prod.snd=(g.keep L).past→Rep H5 {D with past:=s5,pq:=p5} (g.keep L)∧Stp H D H5 {D with past:=s5,pq:=p5}∧OnlyP D {D with past:=s5,pq:=p5}∧Keep (fun k=>k=D.p∨D.past.at k) H H5:=fun H5 s5 p5 k5 g5 po5 hs5 ha5 hm5=>by
  have kk:Keep (fun k=>k=D.p∨D.past.at k) H H5:=kall.trans (k5.mono (T:=fun k=>k=D.p∨D.past.at k) fun _ _ e=>.inl e) fun _ _ e=>e;have hnew:∀k,s5.at k→H.next≤k:=fun k e=>by have:=f9 k (ha5 k e);omega
  have hbl:∀k,bl p5 k→bl D.pq k∨k=b2:=fun k e=>by
   rcases bl_app.1 (bl_sub hs5 e)with e|⟨x,hx,e⟩
   ·exact .inl e
   ·simp only[List.mem_singleton]at hx;subst hx;exact .inr e.symm
  refine⟨⟨g5,by have:=kk.1;have:=h.lt;show D.p<_;omega,Whole.keep h.co kk fun k e=>ap 1 k (by decide) (by decide) e,h.cr.keep kk fun k e=>ap 2 k (by decide) (by decide) e,h.cL,TabO.keep h.ta kk fun k e=>ap 3 k (by decide) (by decide) e,h.oo.keep kk fun k e=>ap 4 k (by decide) (by decide) e,
   h.or.keep kk fun k e=>ap 5 k (by decide) (by decide) e,po5,(hrows.sub hs5).keep k5 fun k e hk=>?_,hm5,sep_of (N:=H.next) h.sep (fun i k e=>?_) (fun i j k hk e1 e2=>?_)⟩,⟨rfl,rfl,kk.mono fun k _ e=>e.elim (fun e=>⟨0,e⟩) (fun e=>⟨6,e⟩),fun k ⟨i,e⟩=>?_⟩,⟨rfl,rfl,rfl,rfl,rfl,rfl,rfl⟩,kk⟩
  ·rcases hbl k e with e|e
   ·exact ap 7 k (by decide) (by decide) e (.inl hk)
   ·have:=h.lt;omega
  ·rcases cmp_past e with ⟨_,e⟩|⟨rfl,e⟩|e
   ·exact .inr (hnew k e)
   ·rcases hbl k e with e|e
    ·exact .inl e
    ·exact .inr (by omega)
   ·exact .inl e
  ·have c6:∀k,s5.at k→H4.next<k:=fun k e=>f9 k (ha5 k e)
   have c7:∀k,H.next≤k→bl p5 k→k=b2:=fun k hk e=>(hbl k e).elim (fun e=>by have:=h.pr.lt e;omega) id
   have hb:=r2.lt;rcases cmp_past e1 with ⟨rfl,a1⟩|⟨rfl,a1⟩|a1<;>rcases cmp_past e2 with ⟨rfl,a2⟩|⟨rfl,a2⟩|a2
   ·rfl
   ·have:=c6 k a1;have:=c7 k hk a2;omega
   ·have:=cmp_lt h a2;omega
   ·have:=c6 k a2;have:=c7 k hk a1;omega
   ·rfl
   ·have:=cmp_lt h a2;omega
   ·have:=cmp_lt h a1;omega
   ·have:=cmp_lt h a1;omega
   ·have:=cmp_lt h a1;omega
  ·rcases cmp_past e with ⟨_,e⟩|⟨_,e⟩|e
   ·exact .inr (hnew k e)
   ·rcases hbl k e with e|e
    ·exact .inl ⟨7,e⟩
    ·exact .inr (by omega)
   ·exact .inl ⟨i,e⟩
 by_cases c:200<g.past.length+1
 ·rw[if_pos (by rw[decide_eq_true_eq];omega)];have hl:(IntKind.wrap .i64 ((s'.n:Int)-200))=((g.past.length+1-200:Nat):Int):=by rw[w64 (by omega)];omega
  rw[hl];rcases hp11 with ⟨_,h0⟩|⟨bb,A,v,hc⟩
  ·have:=congrArg List.length h0;simp at this
  rw[Vw.s_l v (by rw[hsn];omega)];simp only[optK_s,asSL_k];have hsub:=Vw.sub v (l:=g.past.length+1-200) (h:=s'.n) (by rw[hsn];omega) (Nat.le_refl _);have hst2:Heap.st1 H11 ⟨D.p,31,none⟩ (subS s' (g.past.length+1-200) s'.n 1).v=some (H11.put D.p (.cells (gridL g.c {D with past:=subS s' (g.past.length+1-200) s'.n 1}) t_96 false 0 false)):=(st1_s g11 (by show 31<33;omega) (by omega)).trans rfl;rw[hst2];simp only[optK_s];have kp:Keep (fun k=>k=D.p) H11 (H11.put D.p (.cells (gridL g.c {D with past:=subS s' (g.past.length+1-200) s'.n 1}) t_96 false 0 false)):=Keep.put _ _ _ rfl;have hbb:bb≠D.p:=by have:=f9 bb (Vw.at v);have:=h.lt;omega
  obtain⟨t1,t2,t3,t4⟩:=fin (H11.put D.p (.cells (gridL g.c {D with past:=subS s' (g.past.length+1-200) s'.n 1}) t_96 false 0 false)) (subS s' (g.past.length+1-200) s'.n 1) ((D.pq++[(b2,L)]).drop (g.past.length+1-200)) kp (by simp) (.inr ⟨bb,A++((D.pq++[(b2,L)]).map rowV).take ((g.past.length+1-200)*1),by
   have hv:=Vw.keep hsub kp hbb;have e1:(((D.pq++[(b2,L)]).map rowV).drop ((g.past.length+1-200)*1)).take ((s'.n-(g.past.length+1-200))*1)=((D.pq++[(b2,L)]).drop (g.past.length+1-200)).map rowV:=by rw[Nat.mul_one,Nat.mul_one,List.take_of_length_le (by rw[List.length_drop,List.length_map,hlen,hsn];exact Nat.le_refl _),List.map_drop]
   have e2:((D.pq++[(b2,L)]).map rowV).drop (s'.n*1)++[]=[]:=by rw[List.append_nil,Nat.mul_one,List.drop_eq_nil_of_le (by rw[List.length_map,hlen,hsn];exact Nat.le_refl _)]
   rw[e1,e2]at hv;exact hv,by show s'.c-_=s'.n-_;rw[hc]⟩) (List.drop_sublist _ _) (fun k ⟨a,h1,h2⟩=>by
    have hsa:=Vw.sa v;simp only[subS,hsa,Option.map_some,Option.some.injEq]at h1;subst h1;exact⟨_,hsa,h2⟩) (by
   rw[List.map_drop,hpL];simp only[G.keep,List.length_append,List.length_singleton])
  exact⟨_,_,rfl,t1,t2,t3,t4⟩
 ·rw[if_neg (by rw[decide_eq_true_eq];omega)];obtain⟨t1,t2,t3,t4⟩:=fin H11 s' (D.pq++[(b2,L)]) (Keep.refl _) g11 hp11 (List.Sublist.refl _) (fun _ e=>e) (by
   rw[hpL];have h0:(g.past++[L]).length-200=0:=by rw[List.length_append,List.length_singleton];omega
   simp only[G.keep,h0,List.drop_zero])
  exact⟨_,_,rfl,t1,t2,t3,t4⟩
set_option maxRecDepth 100000 in
theorem WF.keep{g:G}(w:WF g){l:List Cl}(hl:l≠[])(hl2:l.length≤120):WF (g.keep l):=by
 obtain⟨h1,h2,h3,h4,h5,h6,h7,h8,h9,h10,h11,h12,h13,h14,h15,h16,h17,h18,h19⟩:=w;refine⟨h1,h2,h3,h4,h5,h6,h7,h8,h9,h10,h11,h12,h13,h14,h15,h16,h17,?_,fun x hx=>?_⟩
 ·simp only[G.keep,List.length_drop];omega
 ·have:=List.mem_of_mem_drop hx;rcases List.mem_append.1 this with hx|hx
  ·exact h19 x hx
  ·simp only[List.mem_singleton]at hx;subst hx;exact⟨hl,hl2⟩
theorem Whole.src{H:Heap}{s:Sl}{cs:List Value}{e:TypeId}{sz:Nat}(h:Whole H s cs e sz):srcCells H sz s.n s.v=some cs:=by
 rcases h with ⟨rfl,rfl⟩|⟨b,n,rfl,h1,h2,o,st,h3⟩
 ·rfl
 ·have v:Vw H ⟨some ⟨b,0,none⟩,n,n⟩ b [] cs [] e sz:=⟨rfl,h1,Nat.le_refl _,h2,o,st,by simpa using h3⟩;rw[v.src (Nat.le_refl _),List.take_of_length_le (by rw[h1];exact Nat.le_refl _)]
theorem CloneO_s(d:Nat){H:Heap}{s:Sl}{b:Nat}{A cs Z:List Value}(v:OV H s b A cs Z)(hl:cs.length≤100000):∃y H',X (d+1) n_92 [s.v] H=some (Sl.v y,H')∧Whole H' y cs t_41 1∧(∀k,y.at k→H.next≤k)∧y.n=cs.length∧Keep0 H H':=by
 have hn:=Vw.hn v;rw[slices_Clone_S_S_api_Cell_S_api_Cell_eq,if_neg (by rw[Vw.sa v];simp),newK_s];have k1:Keep0 H (H.new (.cells [] t_41 false 0 false)):=Keep.new _ _;have w1:Whole (H.new (.cells [] t_41 false 0 false)) ⟨some ⟨H.next,0,none⟩,0,0⟩ [] t_41 1:=.inr ⟨H.next,0,rfl,rfl,by simp,false,false,by simp⟩;have v1:=Vw.keep v k1 (fun h=>h);generalize hH1:H.new (.cells [] t_41 false 0 false)=H1 at*;have n1:H1.next=H.next+1:=by rw[←hH1];simp
 obtain⟨y,H',e1,e2,e3,e4,e5,_⟩:=append_whole (bytes:=24) (str:=false) (x:=s.v) (n:=s.n) (new:=cs) w1 rfl (by rw[v1.src (Nat.le_refl _),List.take_of_length_le (by omega)]) hn (by show(0+s.n)*24≤_;omega) (by omega) (by omega);rw[show(Value.slice (some ⟨H.next,0,none⟩) 0 0)=(⟨some ⟨H.next,0,none⟩,0,0⟩:Sl).v from rfl,e1];simp only[asSL_k];refine⟨y,H',rfl,by simpa using e2,fun k hk=>?_,by rw[e5];show 0+s.n=_;omega,k1.fresh e3 fun k hk=>?_⟩
 ·rcases e4 k hk with ⟨_,h1,h2⟩|h
  ·cases h1;simp only at h2;omega
  ·omega
 ·obtain⟨_,h1,h2⟩:=hk;cases h1;simp only at h2;omega
theorem Rows.insert{H:Heap}{A p C:Q}(h:Rows H (A++C))(h':Rows H p)(hd:∀k,bl p k→¬bl (A++C) k):Rows H (A++(p++C)):=by have h2:=h'.app h hd;have hp:List.Perm (A++(p++C)) (p++(A++C)):=List.perm_append_comm_assoc A p C;exact⟨fun x hx=>h2.1 x (hp.mem_iff.1 hx),((hp.map _).nodup_iff).2 h2.2⟩
theorem Rep.region{H H18 H21:Heap}{D:GD}{g:G}(h:Rep H D g)(k18:Keep0 H H18){b:Nat}(hb:D.cells.at b)(k21:Keep (fun k=>k=b) H18 H21){q':Q}(co:Outer H21 D.cells q')(hr:Rows H18 q')(hbl:∀k,bl q' k→bl D.q k∨H.next≤k){L':List (List Cl)}(hL:q'.map Prod.snd=L'):Rep H21 {D with q:=q'} {g with L:=L'}∧Stp H D H21 {D with q:=q'}∧Keep (fun k=>k=b) H H21:=by
 have h18:=h.new k18;have hS:∀k,(fun k=>k=b) k→D.cmp 1 k:=fun k e=>by have e':k=b:=e;subst e';exact hb
 have hlt:=cmp_lt h (hS b rfl);have kk:Keep (fun k=>k=b) H H21:=k18.to.trans k21 fun _ _ e=>e;have cm:∀{i k:Nat},({D with q:=q'}:GD).cmp i k→(i=2∧bl q' k)∨D.cmp i k:=fun{i k} e=>by
  rcases cmp_cells (s:=D.cells) (p:=q') e with ⟨rfl,e⟩|e|e
  ·exact .inr e
  ·exact .inl e
  ·exact .inr e
 refine⟨⟨h18.o0 k21 hS (by decide),by have:=kk.1;have:=h.lt;show D.p<_;omega,co,hr.keep k21 fun k e e'=>?_,hL,h18.o3 k21 hS (by decide),h18.o4 k21 hS (by decide),h18.o5 k21 hS (by decide),h18.o6 k21 hS (by decide),h18.o7 k21 hS (by decide),h.pL,
  sep_of (N:=H.next) h.sep (fun i k e=>?_) (fun i j k hk e1 e2=>?_)⟩,⟨rfl,rfl,kk.mono fun k _ e=>⟨1,hS k e⟩,fun k ⟨i,e⟩=>?_⟩,kk⟩
 ·have e'':k=b:=e';subst e'';rcases hbl k e with e|e
  ·have:=h.sep 1 2 k hb e;omega
  ·omega
 ·rcases cm e with ⟨rfl,e⟩|e
  ·exact hbl k e
  ·exact .inl e
 ·rcases cm e1 with ⟨rfl,a1⟩|a1
  ·rcases cm e2 with ⟨rfl,a2⟩|a2
   ·rfl
   ·have:=cmp_lt h a2;omega
  ·have:=cmp_lt h a1;omega
 ·rcases cm e with ⟨rfl,e⟩|e
  ·exact(hbl k e).imp (fun e=>⟨2,e⟩) id
  ·exact .inl ⟨i,e⟩
def blankL(n:Nat):List Cl:=List.replicate n blank
def G.take(g:G)(row n:Nat):G:={g with L:=g.L.take row++(((g.L.drop row).take (g.c.bottom+1-row)).drop (min n (g.c.bottom+1-row))++(List.replicate (min n (g.c.bottom+1-row)) (blankL g.c.cols)++g.L.drop (g.c.bottom+1)))}
def G.put(g:G)(row n:Nat):G:={g with L:=g.L.take row++(List.replicate (min n (g.c.bottom+1-row)) (blankL g.c.cols)++(((g.L.drop row).take (g.c.bottom+1-row)).take (g.c.bottom+1-row-min n (g.c.bottom+1-row))++g.L.drop (g.c.bottom+1)))}
theorem Rep.ql{H:Heap}{D:GD}{g:G}(h:Rep H D g):D.q.length=g.L.length:=by rw[←h.cL,List.length_map]
theorem take_s(d:Nat){H:Heap}{D:GD}{g:G}(h:Rep H D g)(w:WF g){row n:Nat}(hrow:row≤g.c.bottom):∃H' q',X (d+6) n_87 [P0 D.p,.int .i64 (row:Int),.int .i64 (n:Int)] H=some (.tuple #[],H')∧Rep H' {D with q:=q'} (g.take row n)∧Stp H D H' {D with q:=q'}:=by
 have hql:=h.ql;have hLn:=w.Ln;have hb:=w.bot;have hr2:=w.r2;have hc2:=w.c2;rw[grid_Grid_take_eq,h.l2];simp only[optK_s,asSL_k];rw[h.l18];simp only[optK_s,asI_s];have hne:D.cells.a≠none:=h.co.some (by intro e;rw[e]at hql;simp at hql;omega);obtain⟨b,v,hat⟩:=h.co.ov hne;have hcn:=h.co.n;rw[wi (by omega),Vw.s_lh v (by omega) (by omega)];simp only[optK_s,asSL_k];have vs:=Vw.sub v (l:=row) (h:=g.c.bottom+1) (by omega) (by omega);have hsn:(subS D.cells row (g.c.bottom+1) 1).n=g.c.bottom+1-row:=rfl;generalize hseg:subS D.cells row (g.c.bottom+1) 1=seg at*;have hm:(if(seg.n:Int)<(n:Int)then(seg.n:Int)else(n:Int))=((min n (g.c.bottom+1-row):Nat):Int):=by rw[hsn];split<;>omega
 rw[hm];generalize hmm:min n (g.c.bottom+1-row)=m;have hmle:m≤g.c.bottom+1-row:=by rw[←hmm];exact Nat.min_le_right _ _
 rw[Vw.s_l vs (by omega)];simp only[optK_s,asSL_k];have v2:=Vw.sub vs (l:=m) (h:=seg.n) (by omega) (Nat.le_refl _);have hB:((D.q.map rowV).drop (row*1)).take ((g.c.bottom+1-row)*1)=((D.q.drop row).take (g.c.bottom+1-row)).map rowV:=by rw[Nat.mul_one,Nat.mul_one,List.map_take,List.map_drop]
 rw[hB]at vs v2;have hBl:((D.q.drop row).take (g.c.bottom+1-row)).length=g.c.bottom+1-row:=by rw[List.length_take,List.length_drop];omega
 have hB2:((((D.q.drop row).take (g.c.bottom+1-row)).map rowV).drop (m*1)).take ((seg.n-m)*1)=(((D.q.drop row).take (g.c.bottom+1-row)).drop m).map rowV:=by rw[Nat.mul_one,Nat.mul_one,List.map_drop,List.take_of_length_le (by rw[List.length_drop,List.length_map,hBl,hsn];exact Nat.le_refl _)]
 rw[hB2]at v2;obtain⟨y,H10,e10,w10,f10,yn,k10⟩:=CloneO_s (d+4) v2 (by rw[List.length_map,List.length_drop,hBl];omega);rw[e10];simp only[callK_s,asSL_k];have h10:=h.new k10;rw[h10.l1];simp only[optK_s,asI_s];obtain⟨s2,p2,H15,e15,o15,r15,L15,fs15,fp15,d15,k15⟩:=sheet_s d m g.c.cols (by omega) (by omega) H10;rw[e15];simp only[callK_s,asSL_k];have hp2:p2.length=m:=by rw[←List.length_map (f:=Prod.snd),L15,List.length_replicate]
 have w15:Whole H15 y ((((D.q.drop row).take (g.c.bottom+1-row)).drop m).map rowV) t_41 1:=Whole.keep w10 k15 fun _ _ e=>e;have hsrc:=Whole.src o15;have o15n:=o15.n;obtain⟨z,H18,e18,w18,k18,f18,zn,_⟩:=append_whole (bytes:=24) (str:=false) (x:=s2.v) (n:=s2.n) (new:=p2.map rowV) w15 rfl hsrc (by rw[List.length_map];omega) (by rw[yn,List.length_map,List.length_drop,hBl];omega) (by omega) (by omega);rw[e18];simp only[asSL_k];have n10:=k10.1;have n15:=k15.1;have k018:Keep0 H H18:=(k10.trans k15).fresh k18 fun k e=>f10 k e;have vs18:=Vw.keep vs k018 id;rw[←List.map_append]at w18;have znn:z.n=g.c.bottom+1-row:=by rw[zn,yn,List.length_map,List.length_drop,hBl];omega
 have hnl:((((D.q.drop row).take (g.c.bottom+1-row)).drop m++p2)).length=g.c.bottom+1-row:=by rw[List.length_append,List.length_drop,hBl,hp2];omega
 obtain⟨H21,e21,v21,k21,n21⟩:=vs18.copy (x:=z.v) (m:=z.n) (str:=false) ((((D.q.drop row).take (g.c.bottom+1-row)).drop m++p2).map rowV) (by omega) rfl (by have hz:=Whole.src w18;rw[znn]at hz;rw[znn,hsn,Nat.min_self];exact hz) (by rw[List.length_map,hnl,znn,hsn];simp);rw[e21];simp only[asI_s];rw[show rdsOk [H,H10,H15,H18,H21] [⟨.load 1 false,[.pointer (some ⟨D.p,1,none⟩)],.int .i64 (g.c.cols:Int),0,1⟩]=true from by simp only[rdsOk,Bool.and_true];rw[show 1+1-0=2 from rfl,rdOk_2,rdAt_s rfl (rd1 h.l1) (same_int _ _),rdAt_s rfl (rd1 h10.l1) (same_int _ _)];rfl];simp only[chk_s];have hco:Outer H21 D.cells (D.q.take row++(((D.q.drop row).take (g.c.bottom+1-row)).drop m++(p2++D.q.drop (g.c.bottom+1)))):=by
  obtain⟨_,_,_,q4,o,st,q5⟩:=v21;rcases h.co with ⟨h0,_⟩|⟨b',n',h0,h1,h2⟩
  ·rw[h0]at hne;exact absurd rfl hne
  ·have hbb:b'=b:=by obtain⟨a,ha,hb⟩:=hat;rw[h0]at ha;cases ha;exact hb
   subst hbb;refine .inr ⟨b',n',h0,?_,q4,o,st,?_⟩
   ·rw[h0]at hcn;simp only at hcn;rw[List.length_map,List.length_append,←List.append_assoc,List.length_append,hnl,List.length_take,List.length_drop];omega
   ·rw[q5];refine congrArg (fun c=>some (CObj.cells c t_41 o 0 st)) ?_;have hd0:(((D.q.drop row).take (g.c.bottom+1-row)).map rowV).drop (g.c.bottom+1-row)=[]:=List.drop_eq_nil_of_le (by rw[List.length_map,hBl];exact Nat.le_refl _);rw[List.length_map,hnl,hd0,List.append_nil,List.append_nil,List.nil_append,Nat.mul_one,Nat.mul_one];simp only[List.map_append,List.map_take,List.map_drop,List.append_assoc]
 have hrr:Rows H18 (D.q.take row++(((D.q.drop row).take (g.c.bottom+1-row)).drop m++(p2++D.q.drop (g.c.bottom+1)))):=by
  rw[←List.append_assoc];refine Rows.insert ?_ (r15.keep k18 fun k e e'=>?_) fun k e e'=>?_
  ·refine((h.cr.keep k018 fun _ _ e=>e)).sub ?_;have e1:D.q=D.q.take row++((D.q.drop row).take (g.c.bottom+1-row)++D.q.drop (g.c.bottom+1)):=by
    conv=>lhs;rw[←List.take_append_drop row D.q,←List.take_append_drop (g.c.bottom+1-row) (D.q.drop row),List.drop_drop]
    rw[show row+(g.c.bottom+1-row)=g.c.bottom+1 by omega]
   conv=>rhs;rw[e1]
   rw[List.append_assoc];exact(List.Sublist.refl _).append ((List.drop_sublist _ _).append (List.Sublist.refl _))
  ·have:=f10 k e';have:=fp15 k e;have:=Whole.lt w10 e';omega
  ·have hk:=fp15 k e;have:bl D.q k:=by
    rcases bl_app.1 e' with e'|e'
    ·rcases bl_app.1 e' with e'|e'
     ·exact bl_sub (List.take_sublist _ _) e'
     ·exact bl_sub ((List.drop_sublist _ _).trans ((List.take_sublist _ _).trans (List.drop_sublist _ _))) e'
    ·exact bl_sub (List.drop_sublist _ _) e'
   have:=h.cr.lt this;omega
 obtain⟨t1,t2,_⟩:=h.region k018 hat k21 hco hrr (fun k e=>by
  rcases bl_app.1 e with e|e
  ·exact .inl (bl_sub (List.take_sublist _ _) e)
  ·rcases bl_app.1 e with e|e
   ·exact .inl (bl_sub ((List.drop_sublist _ _).trans ((List.take_sublist _ _).trans (List.drop_sublist _ _))) e)
   ·rcases bl_app.1 e with e|e
    ·have:=fp15 k e;exact .inr (by omega)
    ·exact .inl (bl_sub (List.drop_sublist _ _) e)) (L':=(g.take row n).L) (by
  simp only[List.map_append,List.map_take,List.map_drop,h.cL,L15,G.take,hmm,blankL])
 exact⟨H21,_,rfl,t1,t2⟩
theorem put_s(d:Nat){H:Heap}{D:GD}{g:G}(h:Rep H D g)(w:WF g){row n:Nat}(hrow:row≤g.c.bottom):∃H' q',X (d+6) n_84 [P0 D.p,.int .i64 (row:Int),.int .i64 (n:Int)] H=some (.tuple #[],H')∧Rep H' {D with q:=q'} (g.put row n)∧Stp H D H' {D with q:=q'}:=by
 have hql:=h.ql;have hLn:=w.Ln;have hb:=w.bot;have hr2:=w.r2;have hc2:=w.c2;rw[grid_Grid_put_eq,h.l2];simp only[optK_s,asSL_k];rw[h.l18];simp only[optK_s,asI_s];have hne:D.cells.a≠none:=h.co.some (by intro e;rw[e]at hql;simp at hql;omega);obtain⟨b,v,hat⟩:=h.co.ov hne;have hcn:=h.co.n;rw[wi (by omega),Vw.s_lh v (by omega) (by omega)];simp only[optK_s,asSL_k];have vs:=Vw.sub v (l:=row) (h:=g.c.bottom+1) (by omega) (by omega);have hsn:(subS D.cells row (g.c.bottom+1) 1).n=g.c.bottom+1-row:=rfl;generalize hseg:subS D.cells row (g.c.bottom+1) 1=seg at*;have hm:(if(seg.n:Int)<(n:Int)then(seg.n:Int)else(n:Int))=((min n (g.c.bottom+1-row):Nat):Int):=by rw[hsn];split<;>omega
 rw[hm];generalize hmm:min n (g.c.bottom+1-row)=m;have hmle:m≤g.c.bottom+1-row:=by rw[←hmm];exact Nat.min_le_right _ _
 rw[h.l1];simp only[optK_s,asI_s];have hB:((D.q.map rowV).drop (row*1)).take ((g.c.bottom+1-row)*1)=((D.q.drop row).take (g.c.bottom+1-row)).map rowV:=by rw[Nat.mul_one,Nat.mul_one,List.map_take,List.map_drop]
 rw[hB]at vs;have hBl:((D.q.drop row).take (g.c.bottom+1-row)).length=g.c.bottom+1-row:=by rw[List.length_take,List.length_drop];omega
 obtain⟨s2,p2,H10,e10,o10,r10,L10,fs10,fp10,d10,k10⟩:=sheet_s d m g.c.cols (by omega) (by omega) H;rw[e10];simp only[callK_s,asSL_k];have hp2:p2.length=m:=by rw[←List.length_map (f:=Prod.snd),L10,List.length_replicate]
 have hsub:(IntKind.wrap .i64 ((seg.n:Int)-((m:Nat):Int)))=((seg.n-m:Nat):Int):=by rw[w64 (by omega)];omega
 have vs10:=Vw.keep vs k10 id;rw[hsub,Vw.s_h vs10 (by omega)];simp only[optK_s,asSL_k];have v2:=Vw.sub vs10 (l:=0) (h:=seg.n-m) (by omega) (by omega);have hB2:((((D.q.drop row).take (g.c.bottom+1-row)).map rowV).drop (0*1)).take ((seg.n-m-0)*1)=(((D.q.drop row).take (g.c.bottom+1-row)).take (g.c.bottom+1-row-m)).map rowV:=by rw[Nat.zero_mul,List.drop_zero,Nat.mul_one,Nat.sub_zero,hsn,List.map_take (l:=List.take _ _)]
 rw[hB2]at v2;have hs2n:(subS seg 0 (seg.n-m) 1).n=g.c.bottom+1-row-m:=by show seg.n-m-0=_;rw[hsn];rfl
 have hBm:(((D.q.drop row).take (g.c.bottom+1-row)).take (g.c.bottom+1-row-m)).length=g.c.bottom+1-row-m:=by rw[List.length_take,hBl];omega
 have o10n:=o10.n;obtain⟨z,H18,e18,w18,k18,f18,zn,_⟩:=append_whole (bytes:=24) (str:=false) (x:=(subS seg 0 (seg.n-m) 1).v) (n:=(subS seg 0 (seg.n-m) 1).n) (new:=(((D.q.drop row).take (g.c.bottom+1-row)).take (g.c.bottom+1-row-m)).map rowV) o10 rfl (by rw[Vw.src v2 (Nat.le_refl _),List.take_of_length_le (by rw[List.length_map,hBm,hs2n];simp)]) (by rw[List.length_map,hBm,hs2n];simp) (by rw[hs2n];omega) (by omega) (by omega);rw[e18];simp only[asSL_k];have n10:=k10.1;have k018:Keep0 H H18:=k10.fresh k18 fun k e=>fs10 k e;have vs18:=Vw.keep vs k018 id;rw[←List.map_append]at w18;have znn:z.n=g.c.bottom+1-row:=by rw[zn,hs2n];omega
 have hnl:((p2++((D.q.drop row).take (g.c.bottom+1-row)).take (g.c.bottom+1-row-m))).length=g.c.bottom+1-row:=by rw[List.length_append,hBm,hp2];omega
 obtain⟨H21,e21,v21,k21,n21⟩:=vs18.copy (x:=z.v) (m:=z.n) (str:=false) ((p2++((D.q.drop row).take (g.c.bottom+1-row)).take (g.c.bottom+1-row-m)).map rowV) (by omega) rfl (by have hz:=Whole.src w18;rw[znn]at hz;rw[znn,hsn,Nat.min_self];exact hz) (by rw[List.length_map,hnl,znn,hsn];simp);rw[e21];simp only[asI_s];have rdv:∀H1:Heap,Vw H1 seg b ([]++(D.q.map rowV).take (row*1)) (((D.q.drop row).take (g.c.bottom+1-row)).map rowV) ((D.q.map rowV).drop ((g.c.bottom+1)*1)++[]) t_41 1→readD (.subSl t_41 1 false true false) [seg.v,.int .i64 ((seg.n-m:Nat):Int)] H1=some (subS seg 0 (seg.n-m) 1).v:=fun H1 v1=>Vw.s_h v1 (by omega);rw[show rdsOk [H,H10,H18,H21] [⟨.subSl t_41 1 false true false,[seg.v,.int .i64 ((seg.n-m:Nat):Int)],(subS seg 0 (seg.n-m) 1).v,0,1⟩]=true from by simp only[rdsOk,Bool.and_true];rw[show 1+1-0=2 from rfl,rdOk_2,rdAt_s rfl (rdv H vs) (same_sl _ _ _),rdAt_s rfl (rdv H10 vs10) (same_sl _ _ _)];rfl];simp only[chk_s];have hco:Outer H21 D.cells (D.q.take row++(p2++(((D.q.drop row).take (g.c.bottom+1-row)).take (g.c.bottom+1-row-m)++D.q.drop (g.c.bottom+1)))):=by
  obtain⟨_,_,_,q4,o,st,q5⟩:=v21;rcases h.co with ⟨h0,_⟩|⟨b',n',h0,h1,h2⟩
  ·rw[h0]at hne;exact absurd rfl hne
  ·have hbb:b'=b:=by obtain⟨a,ha,hb⟩:=hat;rw[h0]at ha;cases ha;exact hb
   subst hbb;refine .inr ⟨b',n',h0,?_,q4,o,st,?_⟩
   ·rw[h0]at hcn;simp only at hcn;rw[List.length_map,List.length_append,←List.append_assoc,List.length_append,hnl,List.length_take,List.length_drop];omega
   ·rw[q5];refine congrArg (fun c=>some (CObj.cells c t_41 o 0 st)) ?_;have hd0:(((D.q.drop row).take (g.c.bottom+1-row)).map rowV).drop (g.c.bottom+1-row)=[]:=List.drop_eq_nil_of_le (by rw[List.length_map,hBl];exact Nat.le_refl _);rw[List.length_map,hnl,hd0,List.append_nil,List.append_nil,List.nil_append,Nat.mul_one,Nat.mul_one];simp only[List.map_append,List.map_take,List.map_drop,List.append_assoc]
 have hrr:Rows H18 (D.q.take row++(p2++(((D.q.drop row).take (g.c.bottom+1-row)).take (g.c.bottom+1-row-m)++D.q.drop (g.c.bottom+1)))):=by
  refine Rows.insert ?_ (r10.keep k18 fun k e e'=>d10 k e' e) fun k e e'=>?_
  ·refine((h.cr.keep k018 fun _ _ e=>e)).sub ?_;have e1:D.q=D.q.take row++((D.q.drop row).take (g.c.bottom+1-row)++D.q.drop (g.c.bottom+1)):=by
    conv=>lhs;rw[←List.take_append_drop row D.q,←List.take_append_drop (g.c.bottom+1-row) (D.q.drop row),List.drop_drop]
    rw[show row+(g.c.bottom+1-row)=g.c.bottom+1 by omega]
   conv=>rhs;rw[e1]
   exact(List.Sublist.refl _).append ((List.take_sublist _ _).append (List.Sublist.refl _))
  ·have hk:=fp10 k e;have:bl D.q k:=by
    rcases bl_app.1 e' with e'|e'
    ·exact bl_sub (List.take_sublist _ _) e'
    ·rcases bl_app.1 e' with e'|e'
     ·exact bl_sub ((List.take_sublist _ _).trans ((List.take_sublist _ _).trans (List.drop_sublist _ _))) e'
     ·exact bl_sub (List.drop_sublist _ _) e'
   have:=h.cr.lt this;omega
 obtain⟨t1,t2,_⟩:=h.region k018 hat k21 hco hrr (fun k e=>by
  rcases bl_app.1 e with e|e
  ·exact .inl (bl_sub (List.take_sublist _ _) e)
  ·rcases bl_app.1 e with e|e
   ·exact .inr (fp10 k e)
   ·rcases bl_app.1 e with e|e
    ·exact .inl (bl_sub ((List.take_sublist _ _).trans ((List.take_sublist _ _).trans (List.drop_sublist _ _))) e)
    ·exact .inl (bl_sub (List.drop_sublist _ _) e)) (L':=(g.put row n).L) (by
  simp only[List.map_append,List.map_take,List.map_drop,h.cL,L10,G.put,hmm,blankL])
 exact⟨H21,_,rfl,t1,t2⟩
theorem WF.setL{g:G}(w:WF g){L':List (List Cl)}(h1:L'.length=g.c.rows)(h2:∀l∈L',l.length=g.c.cols):WF {g with L:=L'}:=by obtain⟨a1,a2,a3,a4,a5,a6,a7,a8,a9,a10,a11,a12,a13,a14,a15,a16,a17,a18,a19⟩:=w;exact⟨a1,a2,a3,a4,a5,a6,a7,a8,a9,a10,a11,a12,a13,h1,h2,a16,a17,a18,a19⟩
theorem WF.take{g:G}(w:WF g){row n:Nat}(hrow:row≤g.c.bottom):WF (g.take row n):=by
 have hLn:=w.Ln;have hb:=w.bot;have hw:=w.Lw;refine w.setL ?_ fun l hl=>?_
 ·simp only[List.length_append,List.length_take,List.length_drop,List.length_replicate];omega
 ·rcases List.mem_append.1 hl with hl|hl
  ·exact hw l (List.mem_of_mem_take hl)
  ·rcases List.mem_append.1 hl with hl|hl
   ·exact hw l (List.mem_of_mem_drop (List.mem_of_mem_take (List.mem_of_mem_drop hl)))
   ·rcases List.mem_append.1 hl with hl|hl
    ·rw[List.eq_of_mem_replicate hl,blankL,List.length_replicate]
    ·exact hw l (List.mem_of_mem_drop hl)
theorem WF.put{g:G}(w:WF g){row n:Nat}(hrow:row≤g.c.bottom):WF (g.put row n):=by
 have hLn:=w.Ln;have hb:=w.bot;have hw:=w.Lw;refine w.setL ?_ fun l hl=>?_
 ·simp only[List.length_append,List.length_take,List.length_drop,List.length_replicate];omega
 ·rcases List.mem_append.1 hl with hl|hl
  ·exact hw l (List.mem_of_mem_take hl)
  ·rcases List.mem_append.1 hl with hl|hl
   ·rw[List.eq_of_mem_replicate hl,blankL,List.length_replicate]
   ·rcases List.mem_append.1 hl with hl|hl
    ·exact hw l (List.mem_of_mem_drop (List.mem_of_mem_take (List.mem_of_mem_take hl)))
    ·exact hw l (List.mem_of_mem_drop hl)
def G.keeps(g:G)(l:List (List Cl)):G:=l.foldl G.keep g
set_option maxRecDepth 100000 in
theorem keeps_c(l:List (List Cl))(g:G):(g.keeps l).c=g.c∧(g.keeps l).L=g.L∧(g.keeps l).other=g.other∧(g.keeps l).tabs=g.tabs:=by
 induction l generalizing g with
 |nil=>exact⟨rfl,rfl,rfl,rfl⟩
 |cons a l ih=>exact ih (g.keep a)
theorem keeps_snoc(g:G)(l:List (List Cl))(x:List Cl):g.keeps (l++[x])=(g.keeps l).keep x:=by simp[G.keeps]
theorem WF.row_ok{g:G}(w:WF g){l:List Cl}(hl:l∈g.L):l≠[]∧l.length≤120:=by have:=w.Lw l hl;have h1:=w.c1;have h2:=w.c2;exact⟨fun e=>by rw[e]at this;simp at this;omega,by omega⟩
set_option maxRecDepth 100000 in
theorem WF.keeps{g:G}(w:WF g):∀(l:List (List Cl)),(∀x∈l,x≠[]∧x.length≤120)→WF (g.keeps l):=by
 intro l;induction l generalizing g with
 |nil=>intro _;exact w
 |cons a l ih=>intro h;exact ih (w.keep (h a (by simp)).1 (h a (by simp)).2) fun x hx=>h x (by simp[hx])
def G.up(g:G)(n:Nat):G:=(if g.c.top=0∧g.other=none then g.keeps (g.L.take (min n (g.c.bottom-g.c.top+1)))else g).take g.c.top (min n (g.c.bottom-g.c.top+1))
def G.down(g:G)(n:Nat):G:=g.put g.c.top n
def G.due(g:G)(b:Bool):G:={g with c:={g.c with due:=b}}
def G.index(g:G):G:=if g.c.row=g.c.bottom then(g.due false).up 1 else if g.c.row+1<g.c.rows then {g with c:={g.c with due:=false,row:=g.c.row+1}}else g.due false
theorem WF.sc{g:G}(w:WF g){c:Sc}(h1:c.rows=g.c.rows)(h2:c.cols=g.c.cols)(h3:c.row<g.c.rows)(h4:c.col<g.c.cols)(h5:c.top<g.c.rows)(h6:c.top≤c.bottom)(h7:c.bottom<g.c.rows)(h8:c.srow≤1000)(h9:c.scol≤1000)(h10:c.arow<g.c.rows)(h11:c.acol<g.c.cols):WF {g with c:=c}:=by obtain⟨a1,a2,a3,a4,a5,a6,a7,a8,a9,a10,a11,a12,a13,a14,a15,a16,a17,a18,a19⟩:=w;exact⟨by rw[h1];exact a1,by rw[h1];exact a2,by rw[h2];exact a3,by rw[h2];exact a4,by rw[h1];exact h3,by rw[h2];exact h4,by rw[h1];exact h5,h6,by rw[h1];exact h7,h8,h9,by rw[h1];exact h10,by rw[h2];exact h11,by rw[h1];exact a14,by rw[h2];exact a15,by rw[h2];exact a16,fun M hM=>by rw[h1,h2];exact a17 M hM,a18,a19⟩
theorem WF.due{g:G}(w:WF g)(b:Bool):WF (g.due b):=w.sc rfl rfl w.row w.col w.top w.tb w.bot w.srow w.scol w.arow w.acol
theorem WF.up{g:G}(w:WF g)(n:Nat):WF (g.up n):=by
 unfold G.up;have key:∀g':G,WF g'→g'.c=g.c→WF (g'.take g.c.top (min n (g.c.bottom-g.c.top+1))):=fun g' w' e=>w'.take (by rw[e];exact w.tb);split
 ·exact key _ (w.keeps _ fun x hx=>w.row_ok (List.mem_of_mem_take hx)) (keeps_c _ _).1
 ·exact key _ w rfl
theorem WF.down{g:G}(w:WF g)(n:Nat):WF (g.down n):=w.put w.tb
theorem WF.index{g:G}(w:WF g):WF g.index:=by
 unfold G.index;split
 ·exact(w.due false).up 1
 ·split
  ·rename_i h;exact w.sc rfl rfl h w.col w.top w.tb w.bot w.srow w.scol w.arow w.acol
  ·exact w.due false
theorem up_s(d:Nat){H:Heap}{D:GD}{g:G}(h:Rep H D g)(w:WF g)(n:Nat):∃H' D',X (d+7) n_83 [P0 D.p,.int .i64 (n:Int)] H=some (.tuple #[],H')∧Rep H' D' (g.up n)∧Stp H D H' D':=by
 have hb:=w.bot;have htb:=w.tb;have hr2:=w.r2;have hLn:=w.Ln;have hql:=h.ql;rw[grid_Grid_up_eq,h.l18];simp only[optK_s,asI_s];rw[h.l17];simp only[optK_s,asI_s];have hm:(if(IntKind.wrap .i64 ((IntKind.wrap .i64 ((g.c.bottom:Int)-(g.c.top:Int)))+1))<(n:Int)then(IntKind.wrap .i64 ((IntKind.wrap .i64 ((g.c.bottom:Int)-(g.c.top:Int)))+1))else(n:Int))=((min n (g.c.bottom-g.c.top+1):Nat):Int):=by rw[w64 (n:=(g.c.bottom:Int)-(g.c.top:Int)) (by omega),w64 (by omega)];split<;>omega
 rw[hm];generalize hmm:min n (g.c.bottom-g.c.top+1)=m;have hmle:m≤g.c.bottom-g.c.top+1:=by rw[←hmm];exact Nat.min_le_right _ _
 have fin:∀(H1:Heap) (D1:GD) (g1:G),Rep H1 D1 g1→WF g1→g1.c=g.c→D1.p=D.p→Stp H D H1 D1→∃H' D',j21 (d+6) D.p (m:Int) H1=some (.tuple #[],H')∧Rep H' D' (g1.take g.c.top m)∧Stp H D H' D':=fun H1 D1 g1 h1 w1 e1 ep s1=>by rw[j21_eq,←ep,h1.l17,e1];simp only[optK_s,asI_s];obtain⟨H',q',t1,t2,t3⟩:=take_s d h1 w1 (row:=g.c.top) (n:=m) (by rw[e1];exact htb);rw[t1];simp only[callK_s];exact⟨H',_,rfl,t2,s1.trans t3⟩
 have nokeep:¬(g.c.top=0∧g.other=none)→∃H' D',j12 (d+6) D.p (m:Int) false H=some (.tuple #[],H')∧Rep H' D' (g.up n)∧Stp H D H' D':=fun hc=>by rw[j12_eq,if_neg (by simp)];unfold G.up;rw[if_neg hc,hmm];exact fin H D g h w rfl rfl (Stp.refl H D)
 by_cases c0:g.c.top=0
 ·rw[if_pos (by rw[decide_eq_true_eq];omega),h.l23];simp only[optK_s,asSL_k];cases ho:g.other with
  |some M=>
   have hoo:=h.oo;rw[ho]at hoo;have hne:=hoo.1;have e:D.other.a.isNone=false:=by cases h:D.other.a with
    |none=>exact absurd h hne
    |some _=>rfl
   rw[e];exact nokeep (by rw[ho];simp)
  |none=>
   have hoo:=h.oo;rw[ho]at hoo;rw[hoo.1,show Sl.nil.a.isNone=true from rfl,j12_eq,if_pos rfl,h.l2];simp only[optK_s,asSL_k];have hne:D.cells.a≠none:=h.co.some (by intro e;rw[e]at hql;simp at hql;omega);have hcn:=h.co.n;obtain⟨b,v,hat⟩:=h.co.ov hne;rw[Vw.s_h v (by omega)];simp only[optK_s,asSL_k];have hsn:(subS D.cells 0 m 1).n=m:=rfl;rw[hsn];have loop:∀(m1 i:Nat) (H1:Heap) (D1:GD),i≤m→m-i<m1→Rep H1 D1 (g.keeps (g.L.take i))→WF (g.keeps (g.L.take i))→OnlyP D D1→Stp H D H1 D1→
     ∃H' D',j20 (d+6) m1 D.p (m:Int) (subS D.cells 0 m 1) (m:Int) (i:Int) H1=some (.tuple #[],H')∧Rep H' D' ((g.keeps (g.L.take m)).take g.c.top m)∧Stp H D H' D':=by
    intro m1;induction m1 with
    |zero=>intro i H1 D1 h1 h2;omega
    |succ m1 ih=>
     intro i H1 D1 hi him h1 w1 op s1;rw[j20_s];by_cases c:i<m
     ·rw[if_pos (decide_eq_true (by omega))];have hne1:D1.cells.a≠none:=by rw[op.cells];exact hne
      obtain⟨b1,v1,_⟩:=h1.co.ov hne1;have vs:=Vw.sub v1 (l:=0) (h:=m) (by omega) (by rw[op.cells];omega);rw[op.cells]at vs;have hlt:i<D.q.length:=by omega
      have hx:D.q[i]?=some D.q[i]:=List.getElem?_eq_getElem hlt;have hmem:D.q[i]∈D.q:=List.getElem_mem hlt;generalize D.q[i]=x at hx hmem;have hcell:(((D1.q.map rowV).drop (0*1)).take ((m-0)*1))[i]?=some (rowV x):=by rw[op.q,Nat.zero_mul,List.drop_zero,Nat.mul_one,Nat.sub_zero,List.getElem?_take_of_lt c,List.getElem?_map,hx];rfl
      have hld:=Vw.ld vs hcell;rw[Vw.sa vs];simp only[optK_s];rw[if_pos (by rw[hsn];omega),Int.toNat_natCast];simp only[ap];rw[show i*1=i from Nat.mul_one i,hld];simp only[optK_s,rowV,asSL_k2];have hrow:Row H1 x.1 x.2:=h1.cr.1 x (by rw[op.q];exact hmem);have hxL:g.L[i]?=some x.2:=by rw[←h.cL,List.getElem?_map,hx];rfl
      have hxok:=w.row_ok (List.mem_of_getElem? hxL);obtain⟨H5,D5,e5,h5,s5,op5,_⟩:=keep_s (d+4) h1 w1.pn hrow hxok.1 hxok.2;rw[op.p]at e5;rw[show(⟨some ⟨x.1,0,none⟩,x.2.length,x.2.length⟩:Sl).v=(wsl x.1 x.2.length).v from rfl,e5];simp only[callK_s];have htk:g.L.take (i+1)=g.L.take i++[x.2]:=by rw[List.take_add_one,hxL];rfl
      rw[wi (by omega)];refine ih (i+1) H5 D5 (by omega) (by omega) (by rw[htk,keeps_snoc];exact h5) (by rw[htk,keeps_snoc];exact w1.keep hxok.1 hxok.2) ⟨op5.p.trans op.p,op5.pp.trans op.pp,op5.cells.trans op.cells,op5.q.trans op.q,op5.tabs.trans op.tabs,op5.other.trans op.other,op5.oq.trans op.oq⟩ (s1.trans s5)
     ·rw[if_neg (by rw[decide_eq_true_eq];omega)];have:i=m:=by omega
      subst this;exact fin H1 D1 _ h1 w1 (keeps_c _ _).1 op.p s1
   unfold G.up;rw[if_pos ⟨c0,ho⟩,hmm];exact loop NN 0 H D (by omega) (NN_big _ (by omega)) h w ⟨rfl,rfl,rfl,rfl,rfl,rfl,rfl⟩ (Stp.refl H D)
 ·rw[if_neg (by rw[decide_eq_true_eq];omega)];exact nokeep (by intro e;exact c0 e.1)
theorem down_s(d:Nat){H:Heap}{D:GD}{g:G}(h:Rep H D g)(w:WF g)(n:Nat):∃H' D',X (d+7) n_76 [P0 D.p,.int .i64 (n:Int)] H=some (.tuple #[],H')∧Rep H' D' (g.down n)∧Stp H D H' D':=by
 rw[grid_Grid_down_eq,h.l17];simp only[optK_s,asI_s];obtain⟨H',q',t1,t2,t3⟩:=put_s d h w (row:=g.c.top) (n:=n) w.tb;rw[t1];exact⟨H',_,rfl,t2,t3⟩
theorem index_s(d:Nat){H:Heap}{D:GD}{g:G}(h:Rep H D g)(w:WF g):∃H' D',X (d+8) n_73 [P0 D.p] H=some (.tuple #[],H')∧Rep H' D' g.index∧Stp H D H' D':=by
 have hr:=w.row;have hr2:=w.r2;rw[grid_Grid_index_eq];obtain⟨H1,e1,h1,s1⟩:=h.s5 false;rw[e1];simp only[optK_s];rw[h1.l3,h1.l18];simp only[optK_s,asI_s];unfold G.index;by_cases c:g.c.row=g.c.bottom
 ·rw[if_pos (by rw[decide_eq_true_eq];show(g.c.row:Int)=(g.c.bottom:Int);omega),if_pos c];obtain⟨H2,D2,e2,h2,s2⟩:=up_s d h1 (w.due false) 1;rw[show(1:Int)=((1:Nat):Int)from rfl,e2];exact⟨H2,D2,rfl,h2,s1.trans s2⟩
 ·rw[if_neg (by rw[decide_eq_true_eq];show¬(g.c.row:Int)=(g.c.bottom:Int);omega),if_neg c,h1.l0];simp only[optK_s,asI_s];have ew:IntKind.wrap .i64 ((g.c.rows:Int)-1)=(g.c.rows:Int)-1:=w64 (by omega);by_cases c2:g.c.row+1<g.c.rows
  ·rw[if_pos (by rw[decide_eq_true_eq];show(g.c.row:Int)<IntKind.wrap .i64 ((g.c.rows:Int)-1);omega),if_pos c2];obtain⟨H2,e2,h2,s2⟩:=h1.s3 (g.c.row+1);rw[show IntKind.wrap .i64 ((((({g with c:={g.c with due:=false}}:G)).c.row:Nat):Int)+1)=((g.c.row+1:Nat):Int)from wi (i:=g.c.row) (by omega),e2];exact⟨H2,D,rfl,h2,s1.trans s2⟩
  ·rw[if_neg (by rw[decide_eq_true_eq];show¬(g.c.row:Int)<IntKind.wrap .i64 ((g.c.rows:Int)-1);omega),if_neg c2];exact⟨H1,D,rfl,h1,s1⟩
theorem Rep.rowput{H H':Heap}{D:GD}{g:G}(h:Rep H D g){i:Nat}{x:Nat×List Cl}(hx:D.q[i]?=some x)(hk:Keep (fun k=>k=x.1) H H'){L':List Cl}(hr:Row H' x.1 L')(hl:L'.length=x.2.length):Rep H' {D with q:=D.q.set i (x.1,L')} {g with L:=g.L.set i L'}∧Stp H D H' {D with q:=D.q.set i (x.1,L')}:=by
 have hmem:x∈D.q:=List.mem_of_getElem? hx;have hlt:=(List.getElem?_eq_some_iff.1 hx).1;have hxe:=(List.getElem?_eq_some_iff.1 hx).2;have hS:∀k,(fun k=>k=x.1) k→D.cmp 2 k:=fun k e=>⟨x,hmem,e.symm⟩;have hbl:∀k,bl (D.q.set i (x.1,L')) k↔bl D.q k:=fun k=>by
  constructor
  ·rintro⟨y,hy,e⟩;rcases List.mem_or_eq_of_mem_set hy with hy|rfl
   ·exact⟨y,hy,e⟩
   ·exact⟨x,hmem,e⟩
  ·rintro⟨y,hy,e⟩;obtain⟨j,hj,e2⟩:=List.getElem_of_mem hy;by_cases c:i=j
   ·subst c;rw[hxe]at e2;subst e2;exact⟨(x.1,L'),List.mem_set hlt _,e⟩
   ·exact⟨y,by rw[←e2];exact List.mem_iff_getElem.2 ⟨j,by simpa using hj,by rw[List.getElem_set_ne c]⟩,e⟩
 have hmf:(D.q.set i (x.1,L')).map Prod.fst=D.q.map Prod.fst:=by rw[List.map_set];exact List.set_getElem_self (i:=i) (by simpa using hlt)▸(by simp[hxe])
 have cm:∀{j k:Nat},({D with q:=D.q.set i (x.1,L')}:GD).cmp j k→D.cmp j k:=fun{j k} e=>by
  rcases cmp_cells (s:=D.cells) (p:=D.q.set i (x.1,L')) e with ⟨rfl,e⟩|⟨rfl,e⟩|e
  ·exact e
  ·exact(hbl k).1 e
  ·exact e
 refine⟨⟨h.o0 hk hS (by decide),by have:=hk.1;have:=h.lt;show D.p<_;omega,?_,⟨fun y hy=>?_,by rw[hmf];exact h.cr.2⟩,by rw[List.map_set,h.cL],h.o3 hk hS (by decide),h.o4 hk hS (by decide),h.o5 hk hS (by decide),h.o6 hk hS (by decide),h.o7 hk hS (by decide),h.pL,fun i j k e1 e2=>h.sep i j k (cm e1) (cm e2)⟩,⟨rfl,rfl,hk.mono fun k _ e=>⟨2,hS k e⟩,fun k ⟨j,e⟩=>.inl ⟨j,cm e⟩⟩⟩
 ·have hm:(D.q.set i (x.1,L')).map rowV=D.q.map rowV:=by
   rw[List.map_set];have:rowV (x.1,L')=rowV x:=by simp only[rowV,hl]
   rw[this];apply List.ext_getElem?;intro j;rw[List.getElem?_set];split
   ·rename_i e;subst e;rw[if_pos (by simpa using hlt),List.getElem?_map,hx];rfl
   ·rfl
  unfold Outer;rw[hm];exact h.o1 hk hS (by decide)
 ·rcases List.mem_or_eq_of_mem_set hy with hy'|rfl
  ·by_cases c:y.1=x.1
   ·
    obtain⟨j,hj,e2⟩:=List.getElem_of_mem hy;have hj':j<D.q.length:=by simpa using hj
    by_cases ci:i=j
    ·subst ci;rw[List.getElem_set_self]at e2;subst e2;exact hr
    ·rw[List.getElem_set_ne ci]at e2;exfalso;have hn:=List.pairwise_iff_getElem.1 h.cr.2;have h1:i<(D.q.map Prod.fst).length:=by simpa using hlt
     have h2:j<(D.q.map Prod.fst).length:=by simpa using hj'
     rcases Nat.lt_or_gt_of_ne ci with hlt2|hlt2
     ·exact hn i j h1 h2 hlt2 (by simp[hxe,e2,c])
     ·exact hn j i h2 h1 hlt2 (by simp[hxe,e2,c])
   ·exact(h.cr.1 y hy').keep hk c
  ·exact hr
theorem flat_set{L:List Cl}{i:Nat}(c:Cl)(hi:i<L.length):(flat L).take (i*4)++(cellV c++(flat L).drop (i*4+(cellV c).length))=flat (L.set i c):=by rw[cellV_len,show i*4+4=(i+1)*4 by omega,fm_take cellV 4 cellV_len,fm_drop cellV 4 cellV_len,List.set_eq_take_append_cons_drop,if_pos hi];simp[flat]
theorem cell_s(d:Nat){H:Heap}{D:GD}{g:G}(h:Rep H D g)(r:Int):∃H',X (d+1) n_74 [P0 D.p,.int .i32 r] H=some (.agg ⟨cellV {g.c.st with r:=r}⟩,H')∧Keep0 H H':=by
 rw[grid_Grid_cell_eq];simp only[newK_s];have k2:Keep0 H (H.new (.cells [.int .i32 0,.int .i64 0,.int .i64 0,.int .i64 0] t_52 false 0 false)):=Keep.new _ _;have g2:(H.new (.cells [.int .i32 0,.int .i64 0,.int .i64 0,.int .i64 0] t_52 false 0 false)).get H.next=some (.cells (cellV zeroC) t_52 false 0 false):=by simp;rfl
 generalize hH2:H.new (.cells [.int .i32 0,.int .i64 0,.int .i64 0,.int .i64 0] t_52 false 0 false)=H2 at*;have n2:H2.next=H.next+1:=by rw[←hH2];simp
 have h2:=h.new k2;have hld:Cm.ldA H2 ⟨D.p,6,none⟩ 4=some (.agg ⟨cellV g.c.st⟩):=by unfold Cm.ldA;rw[ldN_s h2.get (by show 6+4≤33;omega)];rfl
 rw[hld];simp only[optK_s,asA_s];have k6:Keep0 H2 (H2.new (.cells [.int .i32 0,.int .i64 0,.int .i64 0,.int .i64 0] t_52 false 0 false)):=Keep.new _ _;have g6:(H2.new (.cells [.int .i32 0,.int .i64 0,.int .i64 0,.int .i64 0] t_52 false 0 false)).get H2.next=some (.cells (cellV zeroC) t_52 false 0 false):=by simp;rfl
 have n6:(H2.new (.cells [.int .i32 0,.int .i64 0,.int .i64 0,.int .i64 0] t_52 false 0 false)).next=H2.next+1:=by simp
 generalize (H2.new (.cells [.int .i32 0,.int .i64 0,.int .i64 0,.int .i64 0] t_52 false 0 false))=H6 at*;have st4:∀(H:Heap) (p:Nat) (a b:Cl) (K:Value→Heap→Res),H.get p=some (.cells (cellV a) t_52 false 0 false)→effK (.store 4) [P0 p,.agg ⟨cellV b⟩] H K=K (.tuple #[]) (H.put p (.cells (cellV b) t_52 false 0 false)):=fun H p a b K hg=>by
  have hst:H.stN ⟨p,0,none⟩ (cellV b)=some (H.put p (.cells (cellV b) t_52 false 0 false)):=by simp only[Heap.stN,hg];rfl
  simp only[effK];rw[if_neg (by omega),if_pos ⟨rfl,rfl,by omega⟩,show H.stN ⟨p,0,none⟩ (cellsL (.agg ⟨cellV b⟩))=_ from hst];rfl
 rw[st4 H6 H2.next zeroC g.c.st _ g6];have hs:Heap.st1 (H6.put H2.next (.cells (cellV g.c.st) t_52 false 0 false)) ⟨H2.next,0,none⟩ (.int .i32 r)=some ((H6.put H2.next (.cells (cellV g.c.st) t_52 false 0 false)).put H2.next (.cells (cellV {g.c.st with r:=r}) t_52 false 0 false)):=(st1_s (Heap.get_put_same _ _ _) (by show 0<4;omega) (by omega)).trans rfl;rw[hs];simp only[optK_s];generalize hH9:(H6.put H2.next (.cells (cellV g.c.st) t_52 false 0 false)).put H2.next (.cells (cellV {g.c.st with r:=r}) t_52 false 0 false)=H9
 have g9:H9.get H2.next=some (.cells (cellV {g.c.st with r:=r}) t_52 false 0 false):=by subst hH9;simp
 have g9':H9.get H.next=some (.cells (cellV zeroC) t_52 false 0 false):=by subst hH9;rw[Heap.get_put_ne _ _ (by omega),Heap.get_put_ne _ _ (by omega)];exact k6.get (by omega) g2
 have hld9:Cm.ldA H9 ⟨H2.next,0,none⟩ 4=some (.agg ⟨cellV {g.c.st with r:=r}⟩):=by unfold Cm.ldA;rw[ldN_s g9 (by show 0+4≤4;omega)];rfl
 rw[hld9];simp only[optK_s,asA_s];rw[st4 H9 H.next zeroC _ _ g9'];have hr:readD (.load 4 true) [P0 H.next] (H9.put H.next (.cells (cellV {g.c.st with r:=r}) t_52 false 0 false))=some (.agg ⟨cellV {g.c.st with r:=r}⟩):=by simp only[readD,if_true];rw[ldN_s (Heap.get_put_same H9 H.next _) (by show 0+4≤4;omega)];rfl
 refine⟨H9.put H.next (.cells (cellV {g.c.st with r:=r}) t_52 false 0 false),?_,?_⟩
 ·simp only[retK,resL,show Fr.get [(4,P0 H.next)] 4=some (P0 H.next)from rfl,hr]
 ·refine⟨by subst hH9;simp;omega,fun k hk _=>?_⟩;subst hH9;rw[Heap.get_put_ne _ _ (by omega),Heap.get_put_ne _ _ (by omega),Heap.get_put_ne _ _ (by omega)];exact(k2.trans k6).2 k hk id
theorem Rep.rowat{H:Heap}{D:GD}{g:G}(h:Rep H D g)(w:WF g){i:Nat}(hi:i<g.c.rows):∃x b,D.q[i]?=some x∧g.L[i]?=some x.2∧x.2.length=g.c.cols∧D.cells.a=some ⟨b,0,none⟩∧D.cells.n=g.c.rows∧Heap.ld1 H ⟨b,i,none⟩=some (wsl x.1 x.2.length).v∧Row H x.1 x.2∧D.cells.at b:=by
 have hql:=h.ql;have hLn:=w.Ln;have hne:D.cells.a≠none:=h.co.some (by intro e;rw[e]at hql;simp at hql;omega);obtain⟨b,v,hat⟩:=h.co.ov hne;have hlt:i<D.q.length:=by omega
 have hx:D.q[i]?=some D.q[i]:=List.getElem?_eq_getElem hlt;have hmem:D.q[i]∈D.q:=List.getElem_mem hlt;generalize D.q[i]=x at hx hmem;have hxL:g.L[i]?=some x.2:=by rw[←h.cL,List.getElem?_map,hx];rfl
 have hcn:=h.co.n;have hld:=Vw.ld v (i:=i) (x:=rowV x) (by simp[hx]);exact⟨x,b,hx,hxL,w.Lw _ (List.mem_of_getElem? hxL),Vw.sa v,by omega,(show Heap.ld1 H ⟨b,i,none⟩=some (rowV x)by simpa using hld),h.cr.1 x hmem,hat⟩
def insRow(l:List Cl)(col:Nat):List Cl:=l.take (col+1)++(l.drop col).take (l.length-(col+1))
def G.print0(g:G)(r:Int):G:=let L2:=if g.c.insert then g.L.modify g.c.row (fun l=>insRow l g.c.col)else g.L
 let L3:=L2.modify g.c.row fun l=>l.set g.c.col {g.c.st with r:=r}
 if g.c.col+1=g.c.cols then {g with L:=L3,c:={g.c with due:=g.c.wrap}}else {g with L:=L3,c:={g.c with col:=g.c.col+1}}
def G.print(g:G)(r:Int):G:=(if g.c.due=true∧g.c.wrap=true then({g with c:={g.c with col:=0}}:G).index else g).print0 r
theorem modify_at{L:List (List Cl)}{i:Nat}{x:List Cl}(h:L[i]?=some x)(f:List Cl→List Cl):L.modify i f=L.set i (f x):=by
 obtain⟨hlt,e⟩:=List.getElem?_eq_some_iff.1 h;apply List.ext_getElem?;intro j;rw[List.getElem?_modify,List.getElem?_set];by_cases c:i=j
 ·subst c;simp[hlt,e]
 ·simp[c]
theorem WF.print0{g:G}(w:WF g)(r:Int):WF (g.print0 r):=by
 have hLn:=w.Ln;have hw:=w.Lw;have hr:=w.row;have hc:=w.col;have hx:g.L[g.c.row]?=some g.L[g.c.row]:=List.getElem?_eq_getElem (by omega);have hxl:=hw _ (List.getElem_mem (by omega:g.c.row<g.L.length));generalize g.L[g.c.row]=x at hx hxl;have step:∀(L:List (List Cl)) (f:List Cl→List Cl),L.length=g.c.rows→(∀l∈L,l.length=g.c.cols)→(∀l,l.length=g.c.cols→(f l).length=g.c.cols)→(L.modify g.c.row f).length=g.c.rows∧∀l∈L.modify g.c.row f,l.length=g.c.cols:=fun L f h1 h2 h3=>by
  refine⟨by simpa using h1,fun l hl=>?_⟩;obtain⟨j,hj,e⟩:=List.getElem_of_mem hl;rw[List.getElem_modify]at e;split at e
  ·rw[←e];exact h3 _ (h2 _ (List.getElem_mem _))
  ·rw[←e];exact h2 _ (List.getElem_mem _)
 have s2:(if g.c.insert then g.L.modify g.c.row (fun l=>insRow l g.c.col)else g.L).length=g.c.rows∧∀l∈(if g.c.insert then g.L.modify g.c.row (fun l=>insRow l g.c.col)else g.L),l.length=g.c.cols:=by
  split
  ·exact step _ _ hLn hw fun l hl=>by simp only[insRow,List.length_append,List.length_take,List.length_drop];omega
  ·exact⟨hLn,hw⟩
 have s3:=step _ (fun l=>l.set g.c.col {g.c.st with r:=r}) s2.1 s2.2 fun l hl=>by simpa using hl
 unfold G.print0;simp only;split
 ·exact(w.setL s3.1 s3.2).sc rfl rfl w.row w.col w.top w.tb w.bot w.srow w.scol w.arow w.acol
 ·exact(w.setL s3.1 s3.2).sc rfl rfl w.row (by show g.c.col+1<g.c.cols;omega) w.top w.tb w.bot w.srow w.scol w.arow w.acol
theorem WF.print{g:G}(w:WF g)(r:Int):WF (g.print r):=by
 unfold G.print;split
 ·exact((w.sc (c:={g.c with col:=0}) rfl rfl w.row (by have:=w.c1;show 0<g.c.cols;omega) w.top w.tb w.bot w.srow w.scol w.arow w.acol).index).print0 r
 ·exact w.print0 r
theorem Row.put{_H H':Heap}{b n:Nat}{L:List Cl}{_A _Z cs:List Value}(v:Vw H' (wsl b n) b [] cs [] t_52 4)(e:cs=flat L):Row H' b L:=by subst e;exact Row.of v rfl rfl
theorem print1_s(d:Nat){H:Heap}{D:GD}{g:G}(h:Rep H D g)(w:WF g)(r:Int){L2:List (List Cl)}(hL2:L2=g.L):∃H' D',j1v (d+1) D.p r H=some (.tuple #[],H')∧Rep H' D' (if g.c.col+1=g.c.cols then {g with L:=L2.modify g.c.row fun l=>l.set g.c.col {g.c.st with r:=r},c:={g.c with due:=g.c.wrap}}else {g with L:=L2.modify g.c.row fun l=>l.set g.c.col {g.c.st with r:=r},c:={g.c with col:=g.c.col+1}})∧Stp H D H' D':=by
 subst hL2;have hr:=w.row;have hc:=w.col;have hc2:=w.c2;have hr2:=w.r2;obtain⟨x,b,hx,hxL,hxn,hca,hcn,hld,hrow,hat⟩:=h.rowat w hr;rw[j1v_eq,h.l2];simp only[optK_s,asSL_k];rw[h.l3];simp only[optK_s,asI_s];rw[hca];simp only[optK_s];rw[if_pos (by omega),Int.toNat_natCast];have hap:ap ⟨b,0,none⟩ (g.c.row*1)=⟨b,g.c.row,none⟩:=by simp[ap]
 rw[hap,hld];simp only[optK_s,asSL_k];rw[h.l4];simp only[optK_s,asI_s];obtain⟨H11,e11,k11⟩:=cell_s d h r;rw[e11];simp only[callK_s,asA_s];rw[if_pos (show(0:Int)≤(g.c.col:Int)∧(g.c.col:Int)<((wsl x.1 x.2.length).n:Int)by show _∧(g.c.col:Int)<((x.2.length:Nat):Int);omega),Int.toNat_natCast];have h11:=h.new k11;have r11:=hrow.keep k11 id;obtain⟨H15,e15,v15,k15,n15⟩:=r11.vw.stN (new:=cellV {g.c.st with r:=r}) (i:=g.c.col*4) (by rw[cellV_len,flat_ln];omega);have est:∀K,effK (.store 4) [.pointer (some (ap ⟨x.1,0,none⟩ (g.c.col*4))),.agg ⟨cellV {g.c.st with r:=r}⟩] H11 K=K (.tuple #[]) H15:=fun K=>by simp only[List.length_nil]at e15;simp only[effK];rw[if_neg (by omega),if_pos ⟨rfl,rfl,by omega⟩,show H11.stN (ap ⟨x.1,0,none⟩ (g.c.col*4)) (cellsL (.agg ⟨cellV {g.c.st with r:=r}⟩))=some H15 from e15];rfl
 rw[est];have hl':(x.2.set g.c.col {g.c.st with r:=r}).length=x.2.length:=by simp
 have r15:Row H15 x.1 (x.2.set g.c.col {g.c.st with r:=r}):=by rw[flat_set _ (by omega)]at v15;exact Row.of v15 rfl rfl
 obtain⟨h15,s15⟩:=h11.rowput hx k15 r15 hl';have ld0:∀{H1:Heap},Keep0 H H1→readD (.load 1 false) [.pointer (some ⟨b,g.c.row,none⟩)] H1=some (wsl x.1 x.2.length).v:=fun{H1} k=>by obtain⟨x',b',hx',_,_,hca',_,hld',_,_⟩:=(h.new k).rowat w hr;rw[hx]at hx';cases hx';rw[hca]at hca';cases hca';exact hld'
 rw[show rdsOk [H,H11,H15] [⟨.load 1 false,[.pointer (some ⟨D.p,4,none⟩)],.int .i64 (g.c.col:Int),0,1⟩,⟨.load 1 false,[.pointer (some ⟨b,g.c.row,none⟩)],(wsl x.1 x.2.length).v,0,1⟩,⟨.load 1 false,[.pointer (some ⟨D.p,3,none⟩)],.int .i64 (g.c.row:Int),0,1⟩,⟨.load 1 false,[.pointer (some ⟨D.p,2,none⟩)],D.cells.v,0,1⟩]=true from by simp only[rdsOk,Bool.and_true];rw[show 1+1-0=2 from rfl,rdOk_2,rdOk_2,rdOk_2,rdOk_2,rdAt_s rfl (rd1 h.l4) (same_int _ _),rdAt_s rfl (rd1 h11.l4) (same_int _ _),rdAt_s rfl (ld0 (Keep.refl H)) (same_sl _ _ _),rdAt_s rfl (ld0 k11) (same_sl _ _ _),rdAt_s rfl (rd1 h.l3) (same_int _ _),rdAt_s rfl (rd1 h11.l3) (same_int _ _),rdAt_s rfl (rd1 h.l2) (same_sl _ _ _),rdAt_s rfl (rd1 h11.l2) (same_sl _ _ _)];rfl];simp only[chk_s];rw[modify_at hxL];have hs:Stp H D H15 {D with q:=D.q.set g.c.row (x.1,x.2.set g.c.col {g.c.st with r:=r})}:=(Stp.new k11).trans s15;rw[show Heap.ld1 H15 ⟨D.p,4,none⟩=some (.int .i64 (g.c.col:Int))from h15.l4,show Heap.ld1 H15 ⟨D.p,1,none⟩=some (.int .i64 (g.c.cols:Int))from h15.l1];simp only[optK_s,asI_s];have ew:IntKind.wrap .i64 ((g.c.cols:Int)-1)=(g.c.cols:Int)-1:=w64 (by omega);by_cases cc:g.c.col+1=g.c.cols
 ·rw[if_pos (by rw[decide_eq_true_eq,ew];omega),if_pos cc,show Heap.ld1 H15 ⟨D.p,19,none⟩=some (.bool g.c.wrap)from h15.l19];simp only[optK_s,asB_s];obtain⟨H22,e22,h22,s22⟩:=h15.s5 g.c.wrap;rw[show Heap.st1 H15 ⟨D.p,5,none⟩ (.bool g.c.wrap)=some H22 from e22];simp only[optK_s];exact⟨H22,_,rfl,h22,hs.trans s22⟩
 ·rw[if_neg (by rw[decide_eq_true_eq,ew];omega),if_neg cc,wi (by omega)];obtain⟨H22,e22,h22,s22⟩:=h15.s4 (g.c.col+1);rw[show Heap.st1 H15 ⟨D.p,4,none⟩ (.int .i64 ((g.c.col+1:Nat):Int))=some H22 from e22];simp only[optK_s];exact⟨H22,_,rfl,h22,hs.trans s22⟩
theorem print_s(d:Nat){H:Heap}{D:GD}{g:G}(h:Rep H D g)(w:WF g)(r:Int):∃H' D',X (d+9) n_59 [P0 D.p,.int .i32 r] H=some (.tuple #[],H')∧Rep H' D' (g.print r)∧Stp H D H' D':=by
 have p1:∀{H:Heap} {D:GD} {g:G},Rep H D g→WF g→∃H' D',j1u (d+8) D.p r H=some (.tuple #[],H')∧Rep H' D' (g.print0 r)∧Stp H D H' D':=by
  intro H D g h w;have hr:=w.row;have hc:=w.col;have hc2:=w.c2;rw[j1u_eq,h.l20];simp only[optK_s,asB_s];unfold G.print0;cases hi:g.c.insert with
  |false=>rw[if_neg (by simp)];obtain⟨H',D',e,h',s'⟩:=print1_s (d+7) h w r rfl;exact⟨H',D',e,by simpa using h',s'⟩
  |true=>
   obtain⟨x,b,hx,hxL,hxn,hca,hcn,hld,hrow,hat⟩:=h.rowat w hr;rw[if_pos rfl,h.l2];simp only[optK_s,asSL_k];rw[h.l3];simp only[optK_s,asI_s];rw[hca];simp only[optK_s];rw[if_pos (by omega),Int.toNat_natCast,show ap ⟨b,0,none⟩ (g.c.row*1)=⟨b,g.c.row,none⟩by simp[ap],hld];simp only[optK_s,asSL_k];rw[h.l4];simp only[optK_s,asI_s];rw[wi (by omega),hrow.cv.s_l (by omega)];simp only[optK_s,asSL_k];rw[hrow.cv.s_l (by omega)];simp only[optK_s,asSL_k];have v1:=hrow.cv.sub (l:=g.c.col+1) (k:=x.2.length) (by omega) (Nat.le_refl _);have v2:=hrow.cv.sub (l:=g.c.col) (k:=x.2.length) (by omega) (Nat.le_refl _);have hl1:((x.2.drop (g.c.col+1)).take (x.2.length-(g.c.col+1))).length=x.2.length-(g.c.col+1):=by simp
   have hl2:((x.2.drop g.c.col).take (x.2.length-g.c.col))=x.2.drop g.c.col:=List.take_of_length_le (by simp);have hn2:(subS (wsl x.1 x.2.length) g.c.col x.2.length 4).n=x.2.length-g.c.col:=rfl;obtain⟨H19,e19,v19,k19,n19⟩:=v1.copy (x:=subS (wsl x.1 x.2.length) g.c.col x.2.length 4) (new:=(x.2.drop g.c.col).take (x.2.length-(g.c.col+1))) (by
    rw[hl1,hn2,Nat.min_eq_right (by omega),v2.src (by rw[hl2,List.length_drop];omega),hl2]) (by rw[hl1,hn2,List.length_take,List.length_drop];omega)
   rw[e19];simp only[asI_s];have r19:=v19.row;have hre:[]++x.2.take (g.c.col+1)++((x.2.drop g.c.col).take (x.2.length-(g.c.col+1))++((x.2.drop (g.c.col+1)).take (x.2.length-(g.c.col+1))).drop ((x.2.drop g.c.col).take (x.2.length-(g.c.col+1))).length++(x.2.drop x.2.length++[]))=insRow x.2 g.c.col:=by have hd9:((x.2.drop (g.c.col+1)).take (x.2.length-(g.c.col+1))).drop ((x.2.drop g.c.col).take (x.2.length-(g.c.col+1))).length=[]:=List.drop_eq_nil_of_le (by rw[hl1,List.length_take,List.length_drop];omega);rw[hd9,List.drop_length];simp[insRow]
   rw[hre]at r19;obtain⟨h19,s19⟩:=h.rowput hx k19 r19 (by simp only[insRow,List.length_append,List.length_take,List.length_drop];omega);have w19:WF {g with L:=g.L.set g.c.row (insRow x.2 g.c.col)}:=w.setL (by simpa using w.Ln) fun l hl=>by
    rcases List.mem_or_eq_of_mem_set hl with hl|rfl
    ·exact w.Lw l hl
    ·simp only[insRow,List.length_append,List.length_take,List.length_drop];omega
   obtain⟨H',D',e,h',s'⟩:=print1_s (d+7) h19 w19 r rfl;have hm:g.L.modify g.c.row (fun l=>insRow l g.c.col)=g.L.set g.c.row (insRow x.2 g.c.col):=modify_at hxL _;refine⟨H',D',e,?_,s19.trans s'⟩;simp only[if_true,hm];exact h'
 have hr:=w.row;rw[grid_Grid_print_eq,h.l5];simp only[optK_s,asB_s];unfold G.print;by_cases hd:g.c.due=true
 ·rw[if_pos hd,h.l19];simp only[optK_s,asB_s];rw[j1t_eq];by_cases hw:g.c.wrap=true
  ·rw[if_pos hw,if_pos ⟨hd,hw⟩];obtain⟨H1,e1,h1,s1⟩:=h.s4 0;rw[show(0:Int)=((0:Nat):Int)from rfl,e1];simp only[optK_s];have w1:WF {g with c:={g.c with col:=0}}:=w.sc rfl rfl w.row (by have:=w.c1;show 0<g.c.cols;omega) w.top w.tb w.bot w.srow w.scol w.arow w.acol;obtain⟨H2,D2,e2,h2,s2⟩:=index_s d h1 w1;rw[e2];simp only[callK_s];obtain⟨H3,D3,e3,h3,s3⟩:=p1 h2 w1.index;rw[s2.p]at e3;exact⟨H3,D3,e3,h3,(s1.trans s2).trans s3⟩
  ·rw[if_neg hw,if_neg (fun h=>hw h.2)];exact p1 h w
 ·rw[if_neg hd,j1t_eq,if_neg (by simp),if_neg (fun h=>hd h.1)];exact p1 h w
structure PS where
 state:Nat
 mark:Bool
 odd:Bool
 begun:Bool
 over:Bool
 params:List Int
structure Act where
 kind:Nat
 rune:Int
 mark:Bool
 params:List Int
def intL(l:List Int):List Value:=l.map fun n=>.int .i64 n
def psL(c:PS)(dp:Nat)(s:Sl):List Value:=[P0 dp,.int .i64 c.state,.bool c.mark,.bool c.odd,.bool c.begun,.bool c.over,s.v]
def actL(a:Act)(s:Sl):List Value:=[.int .i64 a.kind,.int .i32 a.rune,.bool a.mark,s.v]
def act0:Act:=⟨0,0,false,[]⟩
structure PR(H:Heap)(pp dp:Nat)(s:Sl)(c:PS):Prop where
 get:H.get pp=some (.cells (psL c dp s) t_125 false 0 false)
 lt:pp<H.next
 par:Whole H s (intL c.params) t_3 1
 ap:¬s.at pp
theorem PR.keep{S:Nat→Prop}{H H':Heap}{pp dp:Nat}{s:Sl}{c:PS}(h:PR H pp dp s c)(hk:Keep S H H')(h1:¬S pp)(h2:∀k,s.at k→¬S k):PR H' pp dp s c:=⟨(hk.2 pp h.lt h1).trans h.get,Nat.lt_of_lt_of_le h.lt hk.1,Whole.keep h.par hk h2,h.ap⟩
theorem PR.new{H H':Heap}{pp dp:Nat}{s:Sl}{c:PS}(h:PR H pp dp s c)(hk:Keep0 H H'):PR H' pp dp s c:=h.keep hk id fun _ _ e=>e
theorem PR.setc{H:Heap}{pp dp:Nat}{s:Sl}{c c':PS}(h:PR H pp dp s c)(hp:c'.params=c.params):PR (H.put pp (.cells (psL c' dp s) t_125 false 0 false)) pp dp s c':=⟨by simp,h.lt,by rw[hp];exact Whole.keep h.par (Keep.put (S:=fun k=>k=pp) _ _ _ rfl) fun k e e'=>h.ap (by have e'':k=pp:=e';rw[←e''];exact e),h.ap⟩
section
variable{H:Heap}{pp dp:Nat}{s:Sl}{c:PS}(h:PR H pp dp s c)
include h
theorem PR.l0:Heap.ld1 H ⟨pp,0,none⟩=some (P0 dp):=(ld1_s h.get).trans rfl
theorem PR.l1:Heap.ld1 H ⟨pp,1,none⟩=some (.int .i64 (c.state:Int)):=(ld1_s h.get).trans rfl
theorem PR.l2:Heap.ld1 H ⟨pp,2,none⟩=some (.bool c.mark):=(ld1_s h.get).trans rfl
theorem PR.l3:Heap.ld1 H ⟨pp,3,none⟩=some (.bool c.odd):=(ld1_s h.get).trans rfl
theorem PR.l4:Heap.ld1 H ⟨pp,4,none⟩=some (.bool c.begun):=(ld1_s h.get).trans rfl
theorem PR.l5:Heap.ld1 H ⟨pp,5,none⟩=some (.bool c.over):=(ld1_s h.get).trans rfl
theorem PR.l6:Heap.ld1 H ⟨pp,6,none⟩=some s.v:=(ld1_s h.get).trans rfl
theorem PR.s1(v:Nat):∃H',Heap.st1 H ⟨pp,1,none⟩ (.int .i64 (v:Int))=some H'∧PR H' pp dp s {c with state:=v}∧Keep (fun k=>k=pp) H H':=⟨H.put pp (.cells (psL {c with state:=v} dp s) t_125 false 0 false),(st1_s h.get (by show 1<7;omega) (by omega)).trans rfl,h.setc rfl,Keep.put _ _ _ rfl⟩
theorem PR.s2(v:Bool):∃H',Heap.st1 H ⟨pp,2,none⟩ (.bool v)=some H'∧PR H' pp dp s {c with mark:=v}∧Keep (fun k=>k=pp) H H':=⟨H.put pp (.cells (psL {c with mark:=v} dp s) t_125 false 0 false),(st1_s h.get (by show 2<7;omega) (by omega)).trans rfl,h.setc rfl,Keep.put _ _ _ rfl⟩
theorem PR.s3(v:Bool):∃H',Heap.st1 H ⟨pp,3,none⟩ (.bool v)=some H'∧PR H' pp dp s {c with odd:=v}∧Keep (fun k=>k=pp) H H':=⟨H.put pp (.cells (psL {c with odd:=v} dp s) t_125 false 0 false),(st1_s h.get (by show 3<7;omega) (by omega)).trans rfl,h.setc rfl,Keep.put _ _ _ rfl⟩
theorem PR.s4(v:Bool):∃H',Heap.st1 H ⟨pp,4,none⟩ (.bool v)=some H'∧PR H' pp dp s {c with begun:=v}∧Keep (fun k=>k=pp) H H':=⟨H.put pp (.cells (psL {c with begun:=v} dp s) t_125 false 0 false),(st1_s h.get (by show 4<7;omega) (by omega)).trans rfl,h.setc rfl,Keep.put _ _ _ rfl⟩
theorem PR.s5(v:Bool):∃H',Heap.st1 H ⟨pp,5,none⟩ (.bool v)=some H'∧PR H' pp dp s {c with over:=v}∧Keep (fun k=>k=pp) H H':=⟨H.put pp (.cells (psL {c with over:=v} dp s) t_125 false 0 false),(st1_s h.get (by show 5<7;omega) (by omega)).trans rfl,h.setc rfl,Keep.put _ _ _ rfl⟩
end
def ctrl(r:Int):Bool:=decide (7≤r)&&decide (r≤13)
def pPlain(r:Int):Option Act:=if ctrl r then some ⟨2,r,false,[]⟩else if r<32∨r=127 then none else some ⟨1,r,false,[]⟩
def pEsc(c:PS)(r:Int):PS×Option Act:=if r=91 then(⟨3,false,false,false,false,[0]⟩,none)else if r=93∨r=80∨r=88∨r=94∨r=95 then({c with state:=4},none)else if r=40∨r=41∨r=42∨r=43∨r=35 then({c with state:=2},none)else if ctrl r then({c with state:=1},some ⟨2,r,false,[]⟩)else if 48≤r∧r≤126 then({c with state:=0},some ⟨3,r,false,[]⟩)else({c with state:=0},none)
def lastMap(l:List Int)(f:Int→Int):List Int:=l.modify (l.length-1) f
def pCsi(c:PS)(r:Int):PS×Option Act:=if ctrl r then(c,some ⟨2,r,false,[]⟩)else if r=24∨r=26∨127<r then({c with state:=0},none)else if 48≤r∧r≤57 then(if c.over then {c with begun:=true}else {c with begun:=true,params:=lastMap c.params fun n=>min (10*n+(r-48)) 9999},none)else if r=59 then let o:=c.over||decide (c.params.length=16)
 ({c with begun:=true,over:=o,params:=if o then c.params else c.params++[0]},none)
 else if r=63∧c.begun=false then({c with begun:=true,mark:=true},none)
 else if 32≤r∧r≤63 then({c with begun:=true,odd:=true},none)
 else if 64≤r∧r≤126 then({c with state:=0},if c.odd then none else some ⟨4,r,c.mark,c.params⟩)
 else(c,none)
def pRune(c:PS)(r:Int):PS×Option Act:=if r=27∧c.state≠4 then({c with state:=1},none)else if r=27 then({c with state:=5},none)else if c.state=1 then pEsc c r else if c.state=2 then({c with state:=0},none)else if c.state=3 then pCsi c r else if c.state=4 then(if r=7∨r=24∨r=26 then {c with state:=0}else c,none)else if c.state=5 then(if r=92 then({c with state:=0},none)else pEsc c r)else(c,pPlain r)
def PS.ok(c:PS):Prop:=1≤c.params.length∧c.params.length≤16∧∀n∈c.params,0≤n∧n≤9999
def Told(H:Heap)(pp dp:Nat)(s:Sl)(q:PS×Option Act)(R:Res):Prop:=∃y b s' H',R=some (.tuple #[.agg ⟨actL (q.2.getD act0) y⟩,.bool b],H')∧b=q.2.isSome∧Whole H' y (intL (q.2.getD act0).params) t_3 1∧PR H' pp dp s' q.1∧(∀k,y.at k→H.next≤k∧¬s'.at k)∧(∀k,s'.at k→s.at k∨H.next≤k)∧Keep (fun k=>k=pp∨s.at k) H H'
theorem ctrl_s(d:Nat)(r:Int)(H:Heap):X (d+1) n_82 [.int .i32 r] H=some (.bool (ctrl r),H):=by
 rw[vt_control_eq];unfold ctrl;by_cases h:7≤r
 ·rw[if_pos (decide_eq_true h)];simp[h]
 ·rw[if_neg (by rw[decide_eq_true_eq];exact h)];simp[h]
theorem ret_act{H:Heap}{p:Nat}{l:List Value}(h:H.get p=some (.cells l t_110 false 0 false))(hl:l.length=4)(b:Bool):retK [.cell 4 4 true,.tmp 5] [(4,P0 p),(5,.bool b)] H=some (.tuple #[.agg ⟨l⟩,.bool b],H):=by
 have hr:readD (.load 4 true) [P0 p] H=some (.agg ⟨l⟩):=by simp only[readD,if_true];rw[ldN_s h (by omega),List.drop_zero,List.take_of_length_le (by omega)]
 have g2:Fr.get [(4,P0 p),(5,.bool b)] 4=some (P0 p):=rfl;have g3:Fr.get [(4,P0 p),(5,.bool b)] 5=some (.bool b):=rfl;simp only[retK,resL,g2,g3,hr]
theorem stN_act{H:Heap}{p:Nat}{c l:List Value}(h:H.get p=some (.cells c t_110 false 0 false))(hc:c.length=4)(hl:l.length=4):H.stN ⟨p,0,none⟩ l=some (H.put p (.cells l t_110 false 0 false)):=by simp only[Heap.stN,h];rw[if_pos (show 0+l.length≤c.length∧0≤0 by omega)];simp only[splice,List.take_zero,List.nil_append,Nat.zero_add];rw[List.drop_eq_nil_of_le (by omega),List.append_nil]
theorem st_act{H:Heap}{p:Nat}{c:List Value}(a:Act)(y:Sl)(h:H.get p=some (.cells c t_110 false 0 false))(hc:c.length=4)(K:Value→Heap→Res):effK (.store 4) [P0 p,.agg ⟨actL a y⟩] H K=K (.tuple #[]) (H.put p (.cells (actL a y) t_110 false 0 false)):=by simp only[effK];rw[if_neg (by omega),if_pos ⟨rfl,rfl,by omega⟩,show H.stN ⟨p,0,none⟩ (cellsL (.agg ⟨actL a y⟩))=_ from stN_act h hc rfl];rfl
theorem told_none{H0 H:Heap}{pp dp p:Nat}{s s':Sl}{c:PS}{l:List Value}(h:PR H pp dp s' c)(hp:H.get p=some (.cells l t_110 false 0 false))(hl:l.length=4)(hp0:H0.next≤p)(hpp:pp<H0.next)(hs:∀k,s'.at k→(s.at k∧k<H0.next)∨p<k)(hk:Keep (fun k=>k=pp∨s.at k∨H0.next≤k) H0 H):Told H0 pp dp s (c,none) (optK (H.stN ⟨p,0,none⟩ [.int .i64 0,.int .i32 0,.bool false,.slice none 0 0]) fun H2=>retK [.cell 4 4 true,.tmp 5] [(4,P0 p),(5,.bool false)] H2):=by
 rw[stN_act hp hl rfl];simp only[optK_s];rw[ret_act (Heap.get_put_same H p _) rfl];have kp:Keep (fun k=>k=p) H (H.put p (.cells [.int .i64 0,.int .i32 0,.bool false,.slice none 0 0] t_110 false 0 false)):=Keep.put _ _ _ rfl;refine⟨Sl.nil,false,s',_,rfl,rfl,.inl ⟨rfl,rfl⟩,h.keep kp (fun e=>by have e':pp=p:=e;omega) fun k e e'=>?_,fun k e=>absurd e Sl.at_nil,fun k e=>?_,?_⟩
 ·have e'':k=p:=e';rcases hs k e with ⟨_,h'⟩|h'<;>omega
 ·rcases hs k e with ⟨h',_⟩|h'
  ·exact .inl h'
  ·exact .inr (by omega)
 ·have:=hk.trans (kp.mono (T:=fun k=>k=pp∨s.at k∨H0.next≤k) fun k _ e=>.inr (.inr (by have e':k=p:=e;omega))) fun _ _ e=>e;exact this.mono fun k hk e=>by
   rcases e with e|e|e
   ·exact .inl e
   ·exact .inr e
   ·omega
theorem told_some{H0 H:Heap}{pp dp p:Nat}{s s':Sl}{c:PS}{l:List Value}(kind:Nat)(r:Int)(h:PR H pp dp s' c)(hp:H.get p=some (.cells l t_110 false 0 false))(hl:l.length=4)(hp0:H0.next≤p)(hpp:pp<H0.next)(hs:∀k,s'.at k→(s.at k∧k<H0.next)∨p<k)(hk:Keep (fun k=>k=pp∨s.at k∨H0.next≤k) H0 H):Told H0 pp dp s (c,some ⟨kind,r,false,[]⟩) (optK (H.stN ⟨p,0,none⟩ [.int .i64 (kind:Int),.int .i32 r,.bool false,.slice none 0 0]) fun H2=>retK [.cell 4 4 true,.tmp 5] [(4,P0 p),(5,.bool true)] H2):=by
 rw[stN_act hp hl rfl];simp only[optK_s];rw[ret_act (Heap.get_put_same H p _) rfl];have kp:Keep (fun k=>k=p) H (H.put p (.cells [.int .i64 (kind:Int),.int .i32 r,.bool false,.slice none 0 0] t_110 false 0 false)):=Keep.put _ _ _ rfl;refine⟨Sl.nil,true,s',_,rfl,rfl,.inl ⟨rfl,rfl⟩,h.keep kp (fun e=>by have e':pp=p:=e;omega) fun k e e'=>?_,fun k e=>absurd e Sl.at_nil,fun k e=>?_,?_⟩
 ·have e'':k=p:=e';rcases hs k e with ⟨_,h'⟩|h'<;>omega
 ·rcases hs k e with ⟨h',_⟩|h'
  ·exact .inl h'
  ·exact .inr (by omega)
 ·have:=hk.trans (kp.mono (T:=fun k=>k=pp∨s.at k∨H0.next≤k) fun k _ e=>.inr (.inr (by have e':k=p:=e;omega))) fun _ _ e=>e;exact this.mono fun k hk e=>by
   rcases e with e|e|e
   ·exact .inl e
   ·exact .inr e
   ·omega
theorem dneg{p:Prop}[Decidable p](h:¬p):¬(decide p=true):=by simpa using h
theorem ff:¬(false=true):=by simp
def zeroA:List Value:=[.int .i64 0,.int .i32 0,.bool false,.slice none 0 0]
structure Und(H0 H:Heap)(pp dp p:Nat)(s s':Sl)(c:PS):Prop where
 pr:PR H pp dp s' c
 hp:∃l,H.get p=some (.cells l t_110 false 0 false)∧l.length=4
 p0:H0.next≤p
 pl:p<H.next
 pp0:pp<H0.next
 hs:∀k,s'.at k→(s.at k∧k<H0.next)∨p<k
 hk:Keep (fun k=>k=pp∨s.at k∨H0.next≤k) H0 H
section
variable{H0 H:Heap}{pp dp p:Nat}{s s':Sl}{c:PS}(u:Und H0 H pp dp p s s' c)
include u
theorem Und.nil:Told H0 pp dp s (c,none) (optK (H.stN ⟨p,0,none⟩ [.int .i64 0,.int .i32 0,.bool false,.slice none 0 0]) fun H2=>retK [.cell 4 4 true,.tmp 5] [(4,P0 p),(5,.bool false)] H2):=by obtain⟨l,h1,h2⟩:=u.hp;exact told_none u.pr h1 h2 u.p0 u.pp0 u.hs u.hk
theorem Und.act(kind:Nat)(r:Int):Told H0 pp dp s (c,some ⟨kind,r,false,[]⟩) (optK (H.stN ⟨p,0,none⟩ [.int .i64 (kind:Int),.int .i32 r,.bool false,.slice none 0 0]) fun H2=>retK [.cell 4 4 true,.tmp 5] [(4,P0 p),(5,.bool true)] H2):=by obtain⟨l,h1,h2⟩:=u.hp;exact told_some kind r u.pr h1 h2 u.p0 u.pp0 u.hs u.hk
theorem Und.own{H':Heap}{c':PS}(h:PR H' pp dp s' c')(k:Keep (fun k=>k=pp) H H'):Und H0 H' pp dp p s s' c':=by obtain⟨l,h1,h2⟩:=u.hp;have:=u.p0;have:=u.pp0;have:=u.pl;exact⟨h,⟨l,(k.2 p u.pl (fun e=>by have e':p=pp:=e;omega)).trans h1,h2⟩,u.p0,Nat.lt_of_lt_of_le u.pl k.1,u.pp0,u.hs,u.hk.trans (k.mono fun _ _ e=>.inl e) fun _ _ e=>e⟩
theorem Und.s1(v:Nat):∃H',Heap.st1 H ⟨pp,1,none⟩ (.int .i64 (v:Int))=some H'∧Und H0 H' pp dp p s s' {c with state:=v}:=by obtain⟨H',e,h,k⟩:=u.pr.s1 v;exact⟨H',e,u.own h k⟩
theorem Und.s2(v:Bool):∃H',Heap.st1 H ⟨pp,2,none⟩ (.bool v)=some H'∧Und H0 H' pp dp p s s' {c with mark:=v}:=by obtain⟨H',e,h,k⟩:=u.pr.s2 v;exact⟨H',e,u.own h k⟩
theorem Und.s3(v:Bool):∃H',Heap.st1 H ⟨pp,3,none⟩ (.bool v)=some H'∧Und H0 H' pp dp p s s' {c with odd:=v}:=by obtain⟨H',e,h,k⟩:=u.pr.s3 v;exact⟨H',e,u.own h k⟩
theorem Und.s4(v:Bool):∃H',Heap.st1 H ⟨pp,4,none⟩ (.bool v)=some H'∧Und H0 H' pp dp p s s' {c with begun:=v}:=by obtain⟨H',e,h,k⟩:=u.pr.s4 v;exact⟨H',e,u.own h k⟩
theorem Und.s5(v:Bool):∃H',Heap.st1 H ⟨pp,5,none⟩ (.bool v)=some H'∧Und H0 H' pp dp p s s' {c with over:=v}:=by obtain⟨H',e,h,k⟩:=u.pr.s5 v;exact⟨H',e,u.own h k⟩
theorem Und.s6(s2:Sl)(l:List Int)(hw:Whole H s2 (intL l) t_3 1)(h2:∀k,s2.at k→(s.at k∧k<H0.next)∨p<k)(h3:¬s2.at pp):∃H',Heap.st1 H ⟨pp,6,none⟩ s2.v=some H'∧Und H0 H' pp dp p s s2 {c with params:=l}:=by
 have k:Keep (fun k=>k=pp) H (H.put pp (.cells (psL {c with params:=l} dp s2) t_125 false 0 false)):=Keep.put _ _ _ rfl;obtain⟨l',h1,h2'⟩:=u.hp;have:=u.p0;have:=u.pp0;refine⟨_,(st1_s u.pr.get (by show 6<7;omega) (by omega)).trans rfl,⟨by simp;rfl,u.pr.lt,Whole.keep hw k fun k e e'=>h3 (by have e'':k=pp:=e';rw[←e''];exact e),h3⟩,⟨l',(k.2 p u.pl (fun e=>by have e':p=pp:=e;omega)).trans h1,h2'⟩,u.p0,u.pl,u.pp0,h2,u.hk.trans (k.mono fun _ _ e=>.inl e) fun _ _ e=>e⟩
end
theorem Und.start{H:Heap}{pp dp:Nat}{s:Sl}{c:PS}(h:PR H pp dp s c):Und H (H.new (.cells [.int .i64 0,.int .i32 0,.bool false,.slice none 0 0] t_110 false 0 false)) pp dp H.next s s c:=
 ⟨h.new (Keep.new _ _),⟨zeroA,by simp;rfl,rfl⟩,Nat.le_refl _,by simp,h.lt,fun k e=>.inl ⟨e,Whole.lt h.par e⟩,Keep.new _ _⟩
theorem plain_s(d:Nat){H:Heap}{pp dp:Nat}{s:Sl}{c:PS}(h:PR H pp dp s c)(r:Int):Told H pp dp s (c,pPlain r) (X (d+2) n_72 [P0 pp,.int .i32 r] H):=by
 rw[vt_Parser_plain_eq];simp only[newK_s];have u:=Und.start h;generalize H.new (.cells [.int .i64 0,.int .i32 0,.bool false,.slice none 0 0] t_110 false 0 false)=H2 at u;rw[ctrl_s];simp only[callK_s,asB_s];unfold pPlain;cases hc:ctrl r with
 |true=>rw[if_pos rfl,if_pos rfl];exact u.act 2 r
 |false=>
  rw[if_neg ff,if_neg ff];by_cases h1:r<32
  ·rw[if_pos (decide_eq_true h1),if_pos (show r<32∨r=127 from .inl h1),j2x_eq,if_pos rfl];exact u.nil
  ·rw[if_neg (dneg h1),j2x_eq];by_cases h2:r=127
   ·rw[if_pos (decide_eq_true h2),if_pos (show r<32∨r=127 from .inr h2)];exact u.nil
   ·rw[if_neg (dneg h2),if_neg (show¬(r<32∨r=127)by omega)];exact u.act 1 r
theorem escaped_s(d:Nat){H:Heap}{pp dp:Nat}{s:Sl}{c:PS}(h:PR H pp dp s c)(r:Int):Told H pp dp s (pEsc c r) (X (d+2) n_70 [P0 pp,.int .i32 r] H):=by
 rw[vt_Parser_escaped_eq];simp only[newK_s];have u:=Und.start h;have n2:(H.new (.cells [.int .i64 0,.int .i32 0,.bool false,.slice none 0 0] t_110 false 0 false)).next=H.next+1:=by simp
 generalize H.new (.cells [.int .i64 0,.int .i32 0,.bool false,.slice none 0 0] t_110 false 0 false)=H2 at u n2;obtain⟨H3,e3,u3⟩:=u.s1 0;rw[show(0:Int)=((0:Nat):Int)from rfl,e3];simp only[optK_s];unfold pEsc;by_cases h91:r=91
 ·rw[if_pos (decide_eq_true h91),if_pos h91];have k5:Keep0 H3 (H3.new (.cells [.int .i64 ((0:Nat):Int)] t_3 false 0 false)):=Keep.new _ _;have hpl:=u3.pl;have hpp:=u3.pp0;have hp0:=u3.p0;have u5:Und H (H3.new (.cells [.int .i64 ((0:Nat):Int)] t_3 false 0 false)) pp dp H.next s s {c with state:=0}:=by obtain⟨l,h1,h2⟩:=u3.hp;exact⟨u3.pr.new k5,⟨l,k5.get hpl h1,h2⟩,u3.p0,by simp;omega,u3.pp0,u3.hs,u3.hk.trans k5.to fun _ _ e=>e⟩
  have w5:Whole (H3.new (.cells [.int .i64 ((0:Nat):Int)] t_3 false 0 false)) ⟨some ⟨H3.next,0,none⟩,1,1⟩ (intL [0]) t_3 1:=.inr ⟨H3.next,1,rfl,rfl,by simp,false,false,by simp;rfl⟩;generalize H3.new (.cells [.int .i64 ((0:Nat):Int)] t_3 false 0 false)=H5 at u5 w5;obtain⟨H6,e6,u6⟩:=u5.s1 3;rw[show(3:Int)=((3:Nat):Int)from rfl,e6];simp only[optK_s];obtain⟨H7,e7,u7⟩:=u6.s2 false;rw[e7];simp only[optK_s];obtain⟨H8,e8,u8⟩:=u7.s3 false;rw[e8];simp only[optK_s];obtain⟨H9,e9,u9⟩:=u8.s4 false;rw[e9];simp only[optK_s];obtain⟨H10,e10,u10⟩:=u9.s5 false;rw[e10];simp only[optK_s];have hat:∀k,(⟨some ⟨H3.next,0,none⟩,1,1⟩:Sl).at k→k=H3.next:=fun k ⟨a,h1,h2⟩=>by cases h1;exact h2.symm
  have kk:Keep (fun k=>k=pp) H5 H10:=by obtain⟨_,e6',h6,k6⟩:=u5.pr.s1 3;rw[show((3:Nat):Int)=3 from rfl]at e6' e6;rw[e6]at e6';cases e6';obtain⟨_,e7',h7,k7⟩:=u6.pr.s2 false;rw[e7]at e7';cases e7';obtain⟨_,e8',h8,k8⟩:=u7.pr.s3 false;rw[e8]at e8';cases e8';obtain⟨_,e9',h9,k9⟩:=u8.pr.s4 false;rw[e9]at e9';cases e9';obtain⟨_,e10',h10,k10⟩:=u9.pr.s5 false;rw[e10]at e10';cases e10';exact((((k6.trans k7 fun _ _ e=>e).trans k8 fun _ _ e=>e).trans k9 fun _ _ e=>e).trans k10 fun _ _ e=>e)
  obtain⟨H11,e11,u11⟩:=u10.s6 ⟨some ⟨H3.next,0,none⟩,1,1⟩ [0] (Whole.keep w5 kk fun k e e'=>by have:=hat k e;have e'':k=pp:=e';omega) (fun k e=>.inr (by have:=hat k e;omega)) (fun e=>by have:=hat pp e;omega);rw[show(Value.slice (some ⟨H3.next,0,none⟩) 1 1)=(⟨some ⟨H3.next,0,none⟩,1,1⟩:Sl).v from rfl,e11];simp only[optK_s];exact u11.nil
 ·rw[if_neg (dneg h91),if_neg h91];have A:∀b:Bool,b=decide (r=93∨r=80∨r=88∨r=94∨r=95)→Told H pp dp s (if r=93∨r=80∨r=88∨r=94∨r=95 then({c with state:=4},none)else if r=40∨r=41∨r=42∨r=43∨r=35 then({c with state:=2},none)else if ctrl r then({c with state:=1},some ⟨2,r,false,[]⟩)else if 48≤r∧r≤126 then({c with state:=0},some ⟨3,r,false,[]⟩)else({c with state:=0},none)) (je (d+1) pp r H.next r b H3):=fun b hb=>by
   rw[je_eq];by_cases hA:r=93∨r=80∨r=88∨r=94∨r=95
   ·rw[if_pos (show b=true by rw[hb];exact decide_eq_true hA),if_pos hA];obtain⟨H4,e4,u4⟩:=u3.s1 4;rw[show(4:Int)=((4:Nat):Int)from rfl,e4];simp only[optK_s];exact u4.nil
   ·rw[if_neg (show¬b=true by rw[hb];exact dneg hA),if_neg hA];have B:∀b:Bool,b=decide (r=40∨r=41∨r=42∨r=43∨r=35)→Told H pp dp s (if r=40∨r=41∨r=42∨r=43∨r=35 then({c with state:=2},none)else if ctrl r then({c with state:=1},some ⟨2,r,false,[]⟩)else if 48≤r∧r≤126 then({c with state:=0},some ⟨3,r,false,[]⟩)else({c with state:=0},none)) (jf (d+1) pp r H.next b H3):=fun b hb=>by
     rw[jf_eq];by_cases hB:r=40∨r=41∨r=42∨r=43∨r=35
     ·rw[if_pos (show b=true by rw[hb];exact decide_eq_true hB),if_pos hB];obtain⟨H4,e4,u4⟩:=u3.s1 2;rw[show(2:Int)=((2:Nat):Int)from rfl,e4];simp only[optK_s];exact u4.nil
     ·rw[if_neg (show¬b=true by rw[hb];exact dneg hB),if_neg hB,ctrl_s];simp only[callK_s,asB_s];cases hc:ctrl r with
      |true=>rw[if_pos rfl,if_pos rfl];obtain⟨H4,e4,u4⟩:=u3.s1 1;rw[show(1:Int)=((1:Nat):Int)from rfl,e4];simp only[optK_s];exact u4.act 2 r
      |false=>
       rw[if_neg ff,if_neg ff];by_cases h1:48≤r
       ·rw[if_pos (decide_eq_true h1),j2w_eq];by_cases h2:r≤126
        ·rw[if_pos (decide_eq_true h2),if_pos ⟨h1,h2⟩];exact u3.act 3 r
        ·rw[if_neg (dneg h2),if_neg (show¬(48≤r∧r≤126)by omega)];exact u3.nil
       ·rw[if_neg (dneg h1),j2w_eq,if_neg ff,if_neg (show¬(48≤r∧r≤126)by omega)];exact u3.nil
    by_cases c1:r=40
    ·rw[if_pos (decide_eq_true c1)];exact B _ (decide_eq_decide.2 (by omega))
    rw[if_neg (dneg c1)];by_cases c2:r=41
    ·rw[if_pos (decide_eq_true c2)];exact B _ (decide_eq_decide.2 (by omega))
    rw[if_neg (dneg c2)];by_cases c3:r=42
    ·rw[if_pos (decide_eq_true c3)];exact B _ (decide_eq_decide.2 (by omega))
    rw[if_neg (dneg c3)];by_cases c4:r=43
    ·rw[if_pos (decide_eq_true c4)];exact B _ (decide_eq_decide.2 (by omega))
    rw[if_neg (dneg c4)];exact B _ (decide_eq_decide.2 (by omega))
  by_cases c1:r=93
  ·rw[if_pos (decide_eq_true c1)];exact A _ (decide_eq_decide.2 (by omega))
  rw[if_neg (dneg c1)];by_cases c2:r=80
  ·rw[if_pos (decide_eq_true c2)];exact A _ (decide_eq_decide.2 (by omega))
  rw[if_neg (dneg c2)];by_cases c3:r=88
  ·rw[if_pos (decide_eq_true c3)];exact A _ (decide_eq_decide.2 (by omega))
  rw[if_neg (dneg c3)];by_cases c4:r=94
  ·rw[if_pos (decide_eq_true c4)];exact A _ (decide_eq_decide.2 (by omega))
  rw[if_neg (dneg c4)];exact A _ (decide_eq_decide.2 (by omega))
theorem intL_len(l:List Int):(intL l).length=l.length:=by simp[intL]
theorem Und.new{H0 H H':Heap}{pp dp p:Nat}{s s':Sl}{c:PS}(u:Und H0 H pp dp p s s' c)(k:Keep0 H H'):Und H0 H' pp dp p s s' c:=by obtain⟨l,h1,h2⟩:=u.hp;exact⟨u.pr.new k,⟨l,k.get u.pl h1,h2⟩,u.p0,Nat.lt_of_lt_of_le u.pl k.1,u.pp0,u.hs,u.hk.trans k.to fun _ _ e=>e⟩
theorem Und.par{H0 H:Heap}{pp dp p:Nat}{s s':Sl}{c:PS}(u:Und H0 H pp dp p s s' c){i:Nat}{n:Int}(hi:c.params[i]?=Option.some n)(v:Int):∃a H',s'.a=Option.some a∧Heap.ld1 H (ap a (i*1))=Option.some (.int .i64 n)∧Heap.st1 H (ap a (i*1)) (.int .i64 v)=Option.some H'∧Und H0 H' pp dp p s s' {c with params:=c.params.set i v}:=by
 have hlt:=(List.getElem?_eq_some_iff.1 hi).1;have hne:s'.a≠Option.none:=by
  rcases u.pr.par with ⟨_,h⟩|⟨b,m,rfl,_⟩
  ·have:=congrArg List.length h;rw[intL_len]at this;simp at this;rw[this]at hlt;simp at hlt
  ·simp
 obtain⟨b,vw,hat⟩:=Vw.of u.pr.par hne;have hx:(intL c.params)[i]?=Option.some (.int .i64 n):=by simp[intL,hi]
 obtain⟨H',e1,v',k',_⟩:=vw.st1 (x:=.int .i64 v) (i:=i) (by rw[intL_len];exact hlt);have hl:=vw.ld hx;refine⟨_,H',Vw.sa vw,by simpa[ap]using hl,by simpa[ap]using e1,?_⟩;have hbp:b≠pp:=fun e=>u.pr.ap (e▸hat);have hpb:b≠p:=fun e=>by
  rcases u.hs b hat with ⟨_,h⟩|h
  ·have:=u.p0;omega
  ·omega
 obtain⟨l,h1,h2⟩:=u.hp;have hset:(intL c.params).set i (.int .i64 v)=intL (c.params.set i v):=by simp[intL,List.map_set]
 rw[hset]at v';refine⟨⟨(k'.2 pp u.pr.lt (fun e=>hbp (by have e':pp=b:=e;exact e'.symm))).trans u.pr.get,Nat.lt_of_lt_of_le u.pr.lt k'.1,?_,u.pr.ap⟩,⟨l,(k'.2 p u.pl (fun e=>hpb (by have e':p=b:=e;exact e'.symm))).trans h1,h2⟩,u.p0,Nat.lt_of_lt_of_le u.pl k'.1,u.pp0,u.hs,u.hk.trans (k'.mono fun k _ e=>?_) fun _ _ e=>e⟩
 ·rcases u.pr.par with ⟨h0,_⟩|⟨b',m,h0,h3,_⟩
  ·rw[h0]at hne;exact absurd rfl hne
  ·have hbb:b'=b:=by obtain⟨a,ha,hb⟩:=hat;rw[h0]at ha;cases ha;exact hb
   subst hbb;obtain⟨_,_,_,q4,o,st,q5⟩:=v';exact .inr ⟨b',m,h0,by rw[intL_len]at h3⊢;simpa using h3,q4,o,st,by simpa using q5⟩
 ·have e':k=b:=e;subst e';rcases u.hs k hat with ⟨h,_⟩|h
  ·exact .inr (.inl h)
  ·have:=u.p0;exact .inr (.inr (by omega))
theorem lastMap_at{l:List Int}{n:Int}(h:l[l.length-1]?=Option.some n)(f:Int→Int):lastMap l f=l.set (l.length-1) (f n):=by
 obtain⟨hlt,e⟩:=List.getElem?_eq_some_iff.1 h;unfold lastMap;apply List.ext_getElem?;intro j;rw[List.getElem?_modify,List.getElem?_set];by_cases c:l.length-1=j
 ·subst c;simp[hlt,e]
 ·simp[c]
theorem w32{n:Int}(h: -2147483648≤n∧n≤2147483647):IntKind.wrap .i32 n=n:=by unfold IntKind.wrap;simp only[IntKind.signed,IntKind.bits];simp;split<;>omega
theorem srcW{H:Heap}{s:Sl}{cs:List Value}{e:TypeId}{sz:Nat}(h:Whole H s cs e sz):srcCells H sz s.n s.v=some cs:=by
 rcases h with ⟨rfl,rfl⟩|⟨b,n,rfl,h1,h2,o,st,h3⟩
 ·rfl
 ·have v:Vw H ⟨Option.some ⟨b,0,Option.none⟩,n,n⟩ b [] cs [] e sz:=⟨rfl,h1,Nat.le_refl _,h2,o,st,by simpa using h3⟩;rw[v.src (Nat.le_refl _),List.take_of_length_le (by rw[h1];exact Nat.le_refl _)]
theorem rd1'{H:Heap}{a:Addr}{v:Value}(h:Heap.ld1 H a=some v):readD (.load 1 false) [.pointer (some a)] H=some v:=h
theorem csi_act{H0 H:Heap}{pp dp p:Nat}{s:Sl}{c:PS}(u:Und H0 H pp dp p s s c)(r:Int)(ok2:c.params.length≤16):Told H0 pp dp s (c,some ⟨4,r,c.mark,c.params⟩) (optK (Heap.ld1 (H.new (.cells [] t_3 false 0 false)) ⟨pp,6,none⟩) fun v10=>asSL v10 fun l11=>appendK t_3 1 8 false (.slice (some ⟨H.next,0,none⟩) 0 0) l11.v (H.new (.cells [] t_3 false 0 false)) fun v12 H13=>asSL v12 fun l14=>optK (Heap.stN H13 ⟨p,0,none⟩ [.int .i64 4,.int .i32 r,.bool c.mark,l14.v]) fun H15=>chk (rdsOk [H,H.new (.cells [] t_3 false 0 false),H13,H15] [⟨.load 1 false,[.pointer (some ⟨pp,6,none⟩)],v10,0,1⟩,⟨.load 1 false,[.pointer (some ⟨pp,2,none⟩)],.bool c.mark,0,2⟩]) (retK [.cell 4 4 true,.tmp 5] [(4,P0 p),(5,.bool true)] H15)):=by
 have k9:Keep0 H (H.new (.cells [] t_3 false 0 false)):=Keep.new _ _;have w8:Whole (H.new (.cells [] t_3 false 0 false)) ⟨some ⟨H.next,0,none⟩,0,0⟩ [] t_3 1:=.inr ⟨H.next,0,rfl,rfl,by simp,false,false,by simp⟩;have n9:(H.new (.cells [] t_3 false 0 false)).next=H.next+1:=by simp
 have u9:=u.new k9;generalize H.new (.cells [] t_3 false 0 false)=H9 at*;rw[u9.pr.l6];simp only[optK_s,asSL_k];have hpn:s.n=c.params.length:=by have:=(Whole.len u.pr.par).1;rw[intL_len]at this;omega
 obtain⟨y,H13,e13,w13,k13,f13,yn,_⟩:=append_whole (bytes:=8) (str:=false) (x:=s.v) (n:=s.n) (new:=intL c.params) w8 rfl (srcW u9.pr.par) (by rw[intL_len];omega) (by show(0+s.n)*8≤_;omega) (by omega) (by omega);rw[show(Value.slice (some ⟨H.next,0,none⟩) 0 0)=(⟨some ⟨H.next,0,none⟩,0,0⟩:Sl).v from rfl,e13];simp only[asSL_k];have hpl:=u.pl;have hp0:=u.p0;have hpp:=u.pp0;have hkn:=u.hk.1;have hat:∀k,(⟨some ⟨H.next,0,none⟩,0,0⟩:Sl).at k→k=H.next:=fun k ⟨a,h1,h2⟩=>by cases h1;exact h2.symm
 have hy:∀k,y.at k→H.next≤k:=fun k e=>(f13 k e).elim (fun e=>by have:=hat k e;omega) (fun e=>by omega)
 have k013:Keep0 H H13:=k9.fresh k13 fun k e=>by have:=hat k e;omega
 have u13:=u.new k013;obtain⟨l,h1,h2⟩:=u13.hp;rw[stN_act h1 h2 rfl];simp only[optK_s];rw[show rdsOk [H,H9,H13,H13.put p (.cells [.int .i64 4,.int .i32 r,.bool c.mark,y.v] t_110 false 0 false)] [⟨.load 1 false,[.pointer (some ⟨pp,6,none⟩)],s.v,0,1⟩,⟨.load 1 false,[.pointer (some ⟨pp,2,none⟩)],.bool c.mark,0,2⟩]=true from by simp only[rdsOk,Bool.and_true];rw[show 1+1-0=2 from rfl,show 2+1-0=3 from rfl,rdOk_2,rdOk_3,rdAt_s rfl (rd1' u.pr.l6) (same_sl _ _ _),rdAt_s rfl (rd1' u9.pr.l6) (same_sl _ _ _),rdAt_s rfl (rd1' u.pr.l2) (same_bool _),rdAt_s rfl (rd1' u9.pr.l2) (same_bool _),rdAt_s rfl (rd1' u13.pr.l2) (same_bool _)];rfl];simp only[chk_s];rw[ret_act (Heap.get_put_same H13 p _) rfl];have kp:Keep (fun k=>k=p) H13 (H13.put p (.cells [.int .i64 4,.int .i32 r,.bool c.mark,y.v] t_110 false 0 false)):=Keep.put _ _ _ rfl;have hsl:∀k,s.at k→k<H.next:=fun k e=>Whole.lt u.pr.par e
 refine⟨y,true,s,_,rfl,rfl,Whole.keep (by simpa using w13) kp fun k e e'=>?_,u13.pr.keep kp (fun e=>by have e':pp=p:=e;omega) fun k e e'=>?_,fun k e=>⟨by have:=hy k e;omega,fun e'=>by have:=hy k e;have:=hsl k e';omega⟩,fun k e=>.inl e,?_⟩
 ·have e'':k=p:=e';have:=hy k e;omega
 ·have e'':k=p:=e';rcases u.hs k e with ⟨_,h'⟩|h'
  ·omega
  ·omega
 ·have:=(u.hk.trans k013.to fun _ _ e=>e).trans (kp.mono (T:=fun k=>k=pp∨s.at k∨H0.next≤k) fun k _ e=>.inr (.inr (by have e':k=p:=e;omega))) fun _ _ e=>e;exact this.mono fun k hk e=>by
   rcases e with e|e|e
   ·exact .inl e
   ·exact .inr e
   ·omega
theorem csi_s(d:Nat){H:Heap}{pp dp:Nat}{s:Sl}{c:PS}(h:PR H pp dp s c)(ok:c.ok)(r:Int):Told H pp dp s (pCsi c r) (X (d+2) n_71 [P0 pp,.int .i32 r] H):=by
 obtain⟨ok1,ok2,ok3⟩:=ok;rw[vt_Parser_csi_eq];simp only[newK_s];have u:=Und.start h;generalize H.new (.cells [.int .i64 0,.int .i32 0,.bool false,.slice none 0 0] t_110 false 0 false)=H2 at u;rw[u.pr.l4];simp only[optK_s,asB_s];rw[ctrl_s];simp only[callK_s,asB_s];unfold pCsi;cases hc:ctrl r with
 |true=>rw[if_pos rfl,if_pos rfl];exact u.act 2 r
 |false=>
  rw[if_neg ff,if_neg ff];have A:∀b:Bool,b=decide (r=24∨r=26∨127<r)→Told H pp dp s (if r=24∨r=26∨127<r then({c with state:=0},none)else if 48≤r∧r≤57 then(if c.over then {c with begun:=true}else {c with begun:=true,params:=lastMap c.params fun n=>min (10*n+(r-48)) 9999},none)else if r=59 then let o:=c.over||decide (c.params.length=16)
   ({c with begun:=true,over:=o,params:=if o then c.params else c.params++[0]},none)
   else if r=63∧c.begun=false then({c with begun:=true,mark:=true},none)
   else if 32≤r∧r≤63 then({c with begun:=true,odd:=true},none)
   else if 64≤r∧r≤126 then({c with state:=0},if c.odd then none else some ⟨4,r,c.mark,c.params⟩)
   else(c,none)) (j1i (d+1) pp r H.next (!c.begun) b H2):=fun b hb=>by
   rw[j1i_eq];by_cases hA:r=24∨r=26∨127<r
   ·rw[if_pos (show b=true by rw[hb];exact decide_eq_true hA),if_pos hA];obtain⟨H4,e4,u4⟩:=u.s1 0;rw[show Heap.st1 H2 ⟨pp,1,none⟩ (.int .i64 0)=some H4 from e4];simp only[optK_s];exact u4.nil
   ·rw[if_neg (show¬b=true by rw[hb];exact dneg hA),if_neg hA];have B:∀b:Bool,b=decide (48≤r∧r≤57)→Told H pp dp s (if 48≤r∧r≤57 then(if c.over then {c with begun:=true}else {c with begun:=true,params:=lastMap c.params fun n=>min (10*n+(r-48)) 9999},none)else if r=59 then let o:=c.over||decide (c.params.length=16)
     ({c with begun:=true,over:=o,params:=if o then c.params else c.params++[0]},none)
     else if r=63∧c.begun=false then({c with begun:=true,mark:=true},none)
     else if 32≤r∧r≤63 then({c with begun:=true,odd:=true},none)
     else if 64≤r∧r≤126 then({c with state:=0},if c.odd then none else some ⟨4,r,c.mark,c.params⟩)
     else(c,none)) (j2r (d+1) pp r H.next (!c.begun) b H2):=fun b hb=>by
     rw[j2r_eq];by_cases hB:48≤r∧r≤57
     ·rw[if_pos (show b=true by rw[hb];exact decide_eq_true hB),if_pos hB];obtain⟨H3,e3,u3⟩:=u.s4 true;rw[e3];simp only[optK_s];rw[u3.pr.l6];simp only[optK_s,asSL_k];have hpn:s.n=c.params.length:=by have:=(Whole.len h.par).1;rw[intL_len]at this;omega
      have hw:IntKind.wrap .i64 ((s.n:Int)-1)=((c.params.length-1:Nat):Int):=by rw[w64 (by omega)];omega
      rw[hw];have hlt:c.params.length-1<c.params.length:=by omega
      have hn:c.params[c.params.length-1]?=some c.params[c.params.length-1]:=List.getElem?_eq_getElem hlt;have hn2:=ok3 _ (List.getElem_mem hlt);generalize c.params[c.params.length-1]=n at hn hn2;obtain⟨a,H5,ea,el,es,u5⟩:=u3.par (c:={c with begun:=true}) hn (min (10*n+(r-48)) 9999);rw[ea];simp only[optK_s];rw[if_pos (show(0:Int)≤((c.params.length-1:Nat):Int)∧((c.params.length-1:Nat):Int)<(s.n:Int)by omega),u3.pr.l5];simp only[optK_s,asB_s];by_cases ho:c.over=true
      ·rw[if_neg (show¬((!({c with begun:=true}:PS).over)=true)by show¬((!c.over)=true);simp[ho]),if_pos ho];exact u3.nil
      ·rw[if_pos (show(!({c with begun:=true}:PS).over)=true by show(!c.over)=true;simp[ho]),if_neg ho,Int.toNat_natCast,el];simp only[optK_s,asI_s];have hv:(if 9999<(IntKind.wrap .i64 ((IntKind.wrap .i64 (10*n))+(IntKind.wrap .i64 (IntKind.wrap .i32 (r-48)))))then 9999 else(IntKind.wrap .i64 ((IntKind.wrap .i64 (10*n))+(IntKind.wrap .i64 (IntKind.wrap .i32 (r-48))))))=min (10*n+(r-48)) 9999:=by rw[w32 (by omega),w64 (n:=10*n) (by omega),w64 (n:=r-48) (by omega),w64 (by omega)];split<;>omega
       rw[hv,es];simp only[optK_s];rw[lastMap_at hn];exact u5.nil
     ·rw[if_neg (show¬b=true by rw[hb];exact dneg hB),if_neg hB];by_cases h59:r=59
      ·rw[if_pos (decide_eq_true h59),if_pos h59];obtain⟨H3,e3,u3⟩:=u.s4 true;rw[e3];simp only[optK_s];rw[u3.pr.l5];simp only[optK_s,asB_s];have C:∀(o:Bool) (H4:Heap),Und H H4 pp dp H.next s s {c with begun:=true,over:=o}→Told H pp dp s ({c with begun:=true,over:=o,params:=if o then c.params else c.params++[0]},none) (j2s (d+1) pp H.next H4):=fun o H4 u4=>by
        rw[j2s_eq,u4.pr.l5];simp only[optK_s,asB_s];cases o with
        |true=>rw[if_pos (show true=true from rfl),if_neg (show¬((!true)=true)by simp)];exact u4.nil
        |false=>
         rw[if_neg ff,if_pos (show(!false)=true from rfl),u4.pr.l6];simp only[optK_s,asSL_k,newK_s];have hpn:s.n=c.params.length:=by have:=(Whole.len h.par).1;rw[intL_len]at this;omega
         obtain⟨s2,H5,e5,w5,k5,_,f5,_⟩:=push_whole (bytes:=8) (new:=[.int .i64 0]) u4.pr.par rfl (by omega) (by omega) (by omega);rw[e5];simp only[asSL_k];have hpl:=u4.pl;have hp0:=u4.p0;have hpp:=u4.pp0;have k5':Keep (fun k=>k=pp∨s.at k∨H.next≤k) H4 H5:=k5.mono fun _ _ e=>.inr (.inl e);have g5:=(k5.2 pp u4.pr.lt u4.pr.ap).trans u4.pr.get;obtain⟨l,h1,h2⟩:=u4.hp;have hpn2:¬s.at H.next:=fun e=>by have:=Whole.lt h.par e;omega
         have hap:¬s2.at pp:=fun e=>by have:=f5 pp e;have:=u4.hk.1;omega
         have k6:Keep (fun k=>k=pp) H5 (H5.put pp (.cells (psL {c with begun:=true,over:=false,params:=c.params++[0]} dp s2) t_125 false 0 false)):=Keep.put _ _ _ rfl;have e6:Heap.st1 H5 ⟨pp,6,none⟩ s2.v=some (H5.put pp (.cells (psL {c with begun:=true,over:=false,params:=c.params++[0]} dp s2) t_125 false 0 false)):=(st1_s g5 (by show 6<7;omega) (by omega)).trans rfl;rw[e6];simp only[optK_s];have n45:=k5.1;have n04:=u4.hk.1;have u6:Und H (H5.put pp (.cells (psL {c with begun:=true,over:=false,params:=c.params++[0]} dp s2) t_125 false 0 false)) pp dp H.next s s2 {c with begun:=true,over:=false,params:=c.params++[0]}:=
          ⟨⟨by simp,by simp;omega,Whole.keep (by simpa[intL]using w5) k6 fun k e e'=>hap (by have e'':k=pp:=e';rw[←e''];exact e),hap⟩,⟨l,(k6.2 H.next (by omega) (fun e=>by have e':H.next=pp:=e;omega)).trans ((k5.2 H.next hpl hpn2).trans h1),h2⟩,u4.p0,by simp;omega,u4.pp0,fun k e=>.inr (by have:=f5 k e;omega),(u4.hk.trans k5' fun _ _ e=>e).trans (k6.mono fun _ _ e=>.inl e) fun _ _ e=>e⟩
         exact u6.nil
       have hpn:s.n=c.params.length:=by have:=(Whole.len h.par).1;rw[intL_len]at this;omega
       show Told H pp dp s ({c with begun:=true,over:=c.over||decide (c.params.length=16),params:=if(c.over||decide (c.params.length=16))=true then c.params else c.params++[0]},none) _;by_cases ho:c.over=true
       ·rw[if_pos (show({c with begun:=true}:PS).over=true from ho)];obtain⟨H4,e4,u4⟩:=u3.s5 true;rw[e4];simp only[optK_s];rw[show(c.over||decide (c.params.length=16))=true by simp[ho]];exact C true H4 u4
       ·rw[if_neg (show¬(({c with begun:=true}:PS).over=true)from ho),u3.pr.l6];simp only[optK_s,asSL_k];obtain⟨H4,e4,u4⟩:=u3.s5 (decide (c.params.length=16));rw[show decide ((s.n:Int)=16)=decide (c.params.length=16)from decide_eq_decide.2 (by omega),e4];simp only[optK_s];rw[show(c.over||decide (c.params.length=16))=decide (c.params.length=16)by simp[ho]];exact C _ H4 u4
      ·rw[if_neg (dneg h59),if_neg h59];have D:∀b:Bool,b=decide (r=63∧c.begun=false)→Told H pp dp s (if r=63∧c.begun=false then({c with begun:=true,mark:=true},none)else if 32≤r∧r≤63 then({c with begun:=true,odd:=true},none)else if 64≤r∧r≤126 then({c with state:=0},if c.odd then none else some ⟨4,r,c.mark,c.params⟩)else(c,none)) (j2t (d+1) pp r H.next b H2):=fun b hb=>by
        rw[j2t_eq];by_cases hD:r=63∧c.begun=false
        ·rw[if_pos (show b=true by rw[hb];exact decide_eq_true hD),if_pos hD];obtain⟨H3,e3,u3⟩:=u.s4 true;rw[e3];simp only[optK_s];obtain⟨H4,e4,u4⟩:=u3.s2 true;rw[e4];simp only[optK_s];exact u4.nil
        ·rw[if_neg (show¬b=true by rw[hb];exact dneg hD),if_neg hD];have E:∀b:Bool,b=decide (32≤r∧r≤63)→Told H pp dp s (if 32≤r∧r≤63 then({c with begun:=true,odd:=true},none)else if 64≤r∧r≤126 then({c with state:=0},if c.odd then none else some ⟨4,r,c.mark,c.params⟩)else(c,none)) (j2u (d+1) pp r H.next b H2):=fun b hb=>by
          rw[j2u_eq];by_cases hE:32≤r∧r≤63
          ·rw[if_pos (show b=true by rw[hb];exact decide_eq_true hE),if_pos hE];obtain⟨H3,e3,u3⟩:=u.s4 true;rw[e3];simp only[optK_s];obtain⟨H4,e4,u4⟩:=u3.s3 true;rw[e4];simp only[optK_s];exact u4.nil
          ·rw[if_neg (show¬b=true by rw[hb];exact dneg hE),if_neg hE];have F:∀b:Bool,b=decide (64≤r∧r≤126)→Told H pp dp s (if 64≤r∧r≤126 then({c with state:=0},if c.odd then none else some ⟨4,r,c.mark,c.params⟩)else(c,none)) (j2v (d+1) pp r H.next b H2):=fun b hb=>by
            rw[j2v_eq];by_cases hF:64≤r∧r≤126
            ·rw[if_pos (show b=true by rw[hb];exact decide_eq_true hF),if_pos hF];obtain⟨H3,e3,u3⟩:=u.s1 0;rw[show Heap.st1 H2 ⟨pp,1,none⟩ (.int .i64 0)=some H3 from e3];simp only[optK_s];rw[u3.pr.l3];simp only[optK_s,asB_s];by_cases ho:c.odd=true
             ·rw[if_pos (show({c with state:=0}:PS).odd=true from ho),if_pos ho];exact u3.nil
             ·rw[if_neg (show¬(({c with state:=0}:PS).odd=true)from ho),if_neg ho,u3.pr.l2];simp only[optK_s,asB_s,newK_s];exact csi_act u3 r ok2
            ·rw[if_neg (show¬b=true by rw[hb];exact dneg hF),if_neg hF];exact u.nil
           by_cases h64:64≤r
           ·rw[if_pos (decide_eq_true h64)];exact F _ (decide_eq_decide.2 (by omega))
           ·rw[if_neg (dneg h64)];exact F false (decide_eq_false (by omega)).symm
         by_cases h32:32≤r
         ·rw[if_pos (decide_eq_true h32)];exact E _ (decide_eq_decide.2 (by omega))
         ·rw[if_neg (dneg h32)];exact E false (decide_eq_false (by omega)).symm
       by_cases h63:r=63
       ·rw[if_pos (decide_eq_true h63)];refine D _ ?_;cases c.begun<;>simp[h63]
       ·rw[if_neg (dneg h63)];exact D false (decide_eq_false (fun e=>h63 e.1)).symm
    by_cases h48:48≤r
    ·rw[if_pos (decide_eq_true h48)];exact B _ (decide_eq_decide.2 (by omega))
    ·rw[if_neg (dneg h48)];exact B false (decide_eq_false (by omega)).symm
  by_cases c1:r=24
  ·rw[if_pos (decide_eq_true c1)];exact A true (decide_eq_true (.inl c1)).symm
  rw[if_neg (dneg c1)];by_cases c2:r=26
  ·rw[if_pos (decide_eq_true c2)];exact A true (decide_eq_true (.inr (.inl c2))).symm
  rw[if_neg (dneg c2)];exact A _ (decide_eq_decide.2 (by omega))
theorem castAB(c:Array Value)(b:Bool)(K:List Value→Res):castT [.agg,.bool] (.tuple ⟨[.agg c,.bool b]⟩) K=K [.agg c,.bool b]:=rfl
theorem Und.pass{H0 H:Heap}{pp dp p:Nat}{s:Sl}{c:PS}(u:Und H0 H pp dp p s s c){q:PS×Option Act}{R:Res}(t:Told H pp dp s q R):Told H0 pp dp s q (callK R fun v10 H11=>castT [.agg,.bool] v10 fun l12=>optK l12[0]? fun v13=>asA v13 fun c14=>optK l12[1]? fun v15=>asB v15 fun b16=>effK (.store 4) [P0 p,.agg c14] H11 fun _ H18=>retK [.cell 4 4 true,.tmp 5] [(4,P0 p),(5,.bool b16)] H18):=by
 obtain⟨y,b,s',H1,rfl,hb,wy,pr,hy,hs,hk⟩:=t;obtain⟨l,h1,h2⟩:=u.hp;have hp0:=u.p0;have hpl:=u.pl;have hpp:=u.pp0;have hps:¬s.at p:=fun e=>by rcases u.hs p e with ⟨_,h⟩|h<;>omega
 have g1:H1.get p=some (.cells l t_110 false 0 false):=(hk.2 p hpl (fun e=>e.elim (fun e=>by omega) hps)).trans h1;rw[callK_s,castAB];simp only[List.getElem?_cons_zero,List.getElem?_cons_succ,optK_s,asA_s,asB_s];rw[st_act _ _ g1 h2,ret_act (Heap.get_put_same H1 p _) rfl];have kp:Keep (fun k=>k=p) H1 (H1.put p (.cells (actL (q.2.getD act0) y) t_110 false 0 false)):=Keep.put _ _ _ rfl;refine⟨y,b,s',_,rfl,hb,Whole.keep wy kp fun k e e'=>?_,pr.keep kp (fun e=>by have e':pp=p:=e;omega) fun k e e'=>?_,fun k e=>⟨by have:=(hy k e).1;have:=u.hk.1;omega,(hy k e).2⟩,fun k e=>?_,?_⟩
 ·have e'':k=p:=e';have:=(hy k e).1;omega
 ·have e'':k=p:=e';subst e'';rcases hs k e with h|h
  ·exact hps h
  ·omega
 ·rcases hs k e with h|h
  ·exact .inl h
  ·exact .inr (by have:=u.hk.1;omega)
 ·have:=(u.hk.trans (hk.mono (T:=fun k=>k=pp∨s.at k∨H0.next≤k) fun k _ e=>e.elim .inl fun e=>.inr (.inl e)) fun _ _ e=>e).trans (kp.mono (T:=fun k=>k=pp∨s.at k∨H0.next≤k) fun k _ e=>.inr (.inr (by have e':k=p:=e;omega))) fun _ _ e=>e;exact this.mono fun k hk e=>by
   rcases e with e|e|e
   ·exact .inl e
   ·exact .inr e
   ·omega
def PS.fine(c:PS):Prop:=c.state=3→c.ok
theorem rune_s(d:Nat){H:Heap}{pp dp:Nat}{s:Sl}{c:PS}(h:PR H pp dp s c)(ok:c.fine)(r:Int):Told H pp dp s (pRune c r) (X (d+3) n_58 [P0 pp,.int .i32 r] H):=by
 rw[vt_Parser_Rune_eq];simp only[newK_s];have u:=Und.start h;generalize H.new (.cells [.int .i64 0,.int .i32 0,.bool false,.slice none 0 0] t_110 false 0 false)=H2 at u;unfold pRune;have A:∀b:Bool,b=decide (r=27∧c.state≠4)→Told H pp dp s (if r=27∧c.state≠4 then({c with state:=1},none)else if r=27 then({c with state:=5},none)else if c.state=1 then pEsc c r else if c.state=2 then({c with state:=0},none)else if c.state=3 then pCsi c r else if c.state=4 then(if r=7∨r=24∨r=26 then {c with state:=0}else c,none)else if c.state=5 then(if r=92 then({c with state:=0},none)else pEsc c r)else(c,pPlain r)) (j2q (d+2) pp r H.next b H2):=fun b hb=>by
  rw[j2q_eq];by_cases hA:r=27∧c.state≠4
  ·rw[if_pos (show b=true by rw[hb];exact decide_eq_true hA),if_pos hA];obtain⟨H3,e3,u3⟩:=u.s1 1;rw[show Heap.st1 H2 ⟨pp,1,none⟩ (.int .i64 1)=some H3 from e3];simp only[optK_s];exact u3.nil
  ·rw[if_neg (show¬b=true by rw[hb];exact dneg hA),if_neg hA];by_cases h27:r=27
   ·rw[if_pos (decide_eq_true h27),if_pos h27];obtain⟨H3,e3,u3⟩:=u.s1 5;rw[show Heap.st1 H2 ⟨pp,1,none⟩ (.int .i64 5)=some H3 from e3];simp only[optK_s];exact u3.nil
   ·rw[if_neg (dneg h27),if_neg h27,u.pr.l1];simp only[optK_s,asI_s];by_cases s1:c.state=1
    ·rw[if_pos (show decide ((c.state:Int)=1)=true from decide_eq_true (by omega)),if_pos s1];exact u.pass (escaped_s d u.pr r)
    rw[if_neg (show¬decide ((c.state:Int)=1)=true from dneg (by omega)),if_neg s1];by_cases s2:c.state=2
    ·rw[if_pos (show decide ((c.state:Int)=2)=true from decide_eq_true (by omega)),if_pos s2];obtain⟨H3,e3,u3⟩:=u.s1 0;rw[show Heap.st1 H2 ⟨pp,1,none⟩ (.int .i64 0)=some H3 from e3];simp only[optK_s];exact u3.nil
    rw[if_neg (show¬decide ((c.state:Int)=2)=true from dneg (by omega)),if_neg s2];by_cases s3:c.state=3
    ·rw[if_pos (show decide ((c.state:Int)=3)=true from decide_eq_true (by omega)),if_pos s3];exact u.pass (csi_s d u.pr (ok s3) r)
    rw[if_neg (show¬decide ((c.state:Int)=3)=true from dneg (by omega)),if_neg s3];by_cases s4:c.state=4
    ·rw[if_pos (show decide ((c.state:Int)=4)=true from decide_eq_true (by omega)),if_pos s4];have B:∀b:Bool,b=decide (r=7∨r=24∨r=26)→Told H pp dp s (if r=7∨r=24∨r=26 then {c with state:=0}else c,none) (j1h (d+2) pp H.next b H2):=fun b hb=>by
      rw[j1h_eq];by_cases hB:r=7∨r=24∨r=26
      ·rw[if_pos (show b=true by rw[hb];exact decide_eq_true hB),if_pos hB];obtain⟨H3,e3,u3⟩:=u.s1 0;rw[show Heap.st1 H2 ⟨pp,1,none⟩ (.int .i64 0)=some H3 from e3];simp only[optK_s];exact u3.nil
      ·rw[if_neg (show¬b=true by rw[hb];exact dneg hB),if_neg hB];exact u.nil
     by_cases c1:r=7
     ·rw[if_pos (show decide (r=7)=true from decide_eq_true c1)];exact B true (decide_eq_true (.inl c1)).symm
     rw[if_neg (show¬decide (r=7)=true from dneg c1)];by_cases c2:r=24
     ·rw[if_pos (show decide (r=24)=true from decide_eq_true c2)];exact B true (decide_eq_true (.inr (.inl c2))).symm
     rw[if_neg (show¬decide (r=24)=true from dneg c2)];exact B _ (decide_eq_decide.2 (by omega))
    rw[if_neg (show¬decide ((c.state:Int)=4)=true from dneg (by omega)),if_neg s4];by_cases s5:c.state=5
    ·rw[if_pos (show decide ((c.state:Int)=5)=true from decide_eq_true (by omega)),if_pos s5];by_cases h92:r=92
     ·rw[if_pos (show decide (r=92)=true from decide_eq_true h92),if_pos h92];obtain⟨H3,e3,u3⟩:=u.s1 0;rw[show Heap.st1 H2 ⟨pp,1,none⟩ (.int .i64 0)=some H3 from e3];simp only[optK_s];exact u3.nil
     ·rw[if_neg (show¬decide (r=92)=true from dneg h92),if_neg h92];exact u.pass (escaped_s d u.pr r)
    rw[if_neg (show¬decide ((c.state:Int)=5)=true from dneg (by omega)),if_neg s5];exact u.pass (plain_s d u.pr r)
 by_cases h27:r=27
 ·rw[if_pos (show decide (r=27)=true from decide_eq_true h27),u.pr.l1];simp only[optK_s,asI_s];refine A _ ?_;by_cases s4:c.state=4
  ·rw[decide_eq_true (show((c.state:Int)=4)by omega),decide_eq_false (show¬(r=27∧c.state≠4)from fun e=>e.2 s4)];rfl
  ·rw[decide_eq_false (show¬((c.state:Int)=4)by omega),decide_eq_true (show(r=27∧c.state≠4)from⟨h27,s4⟩)];rfl
 ·rw[if_neg (show¬decide (r=27)=true from dneg h27)];exact A false (decide_eq_false (fun e=>h27 e.1)).symm
theorem ne3(n:Nat)(c:PS)(hn:n≠3):PS.fine {c with state:=n}:=fun h=>absurd h hn
theorem pEsc_ok(c:PS)(r:Int):(pEsc c r).1.fine:=by
 unfold pEsc;split
 ·refine fun _=>⟨by simp,by simp,fun n hn=>?_⟩;have:n=0:=by simpa using hn
  omega
 split; · exact ne3 4 c (by decide)
 split; · exact ne3 2 c (by decide)
 split; · exact ne3 1 c (by decide)
 split; · exact ne3 0 c (by decide)
 exact ne3 0 c (by decide)
theorem pCsi_ok{c:PS}(h:c.ok)(r:Int):(pCsi c r).1.ok:=by
 obtain⟨h1,h2,h3⟩:=h;unfold pCsi;split
 ·exact⟨h1,h2,h3⟩
 split
 ·exact⟨h1,h2,h3⟩
 split
 ·rename_i hr;by_cases ho:c.over=true
  ·simp only[ho,if_true];exact⟨h1,h2,h3⟩
  ·rw[if_neg ho];have hlt:c.params.length-1<c.params.length:=by omega
   have hn:c.params[c.params.length-1]?=some c.params[c.params.length-1]:=List.getElem?_eq_getElem hlt;have hn2:=h3 _ (List.getElem_mem hlt);show PS.ok {c with begun:=true,params:=lastMap c.params _};rw[lastMap_at hn];refine⟨by simpa using h1,by simpa using h2,fun n hm=>?_⟩;rcases List.mem_or_eq_of_mem_set hm with h|h
   ·exact h3 n h
   ·rw[h];omega
 split
 ·show PS.ok {c with begun:=true,over:=c.over||decide (c.params.length=16),params:=if(c.over||decide (c.params.length=16))=true then c.params else c.params++[0]};by_cases ho:(c.over||decide (c.params.length=16))=true
  ·rw[if_pos ho];exact⟨h1,h2,h3⟩
  ·rw[if_neg ho];have:¬c.params.length=16:=fun e=>ho (by simp[e]);refine⟨by simp,by simp;omega,fun n hm=>?_⟩;rcases List.mem_append.1 hm with h|h
   ·exact h3 n h
   ·have:n=0:=by simpa using h
    omega
 repeat (split; · exact⟨h1,h2,h3⟩)
 exact⟨h1,h2,h3⟩
theorem pRune_ok{c:PS}(h:c.fine)(r:Int):(pRune c r).1.fine:=by
 unfold pRune;split; · exact ne3 1 c (by decide)
 split; · exact ne3 5 c (by decide)
 split; · exact pEsc_ok c r
 split; · exact ne3 0 c (by decide)
 split
 ·rename_i h3;exact fun _=>pCsi_ok (h h3) r
 split
 ·show PS.fine (if _ then _ else _);split
  ·exact ne3 0 c (by decide)
  ·exact h
 split
 ·split; · exact ne3 0 c (by decide)
  exact pEsc_ok c r
 exact h
def bytes(l:W):List Value:=l.map fun b=>.int .u8 b.toNat
theorem bytes_len(l:W):(bytes l).length=l.length:=by simp[bytes]
theorem bytesOf_bytes(l:W):bytesOf (bytes l)=some l:=by
 induction l with
 |nil=>rfl
 |cons a l ih=>show(match bytesOf (bytes l)with|some r=>some (UInt8.ofNat (a.toNat:Int).toNat::r)|none=>none)=_;rw[ih];simp
def BV(H:Heap)(s:Sl)(b:Nat)(A:List Value)(l:W)(Z:List Value):Prop:=Vw H s b A (bytes l) Z t_5 1
def HV(H:Heap)(s:Sl)(l:W):Prop:=(s=Sl.nil∧l=[])∨∃b A Z,BV H s b A l Z
theorem BV.n{H:Heap}{s:Sl}{b:Nat}{A Z:List Value}{l:W}(h:BV H s b A l Z):s.n=l.length:=by have:=Vw.hn h;rw[bytes_len]at this;omega
theorem HV.n{H:Heap}{s:Sl}{l:W}(h:HV H s l):s.n=l.length:=by
 rcases h with ⟨rfl,rfl⟩|⟨b,A,Z,h⟩
 ·rfl
 ·exact h.n
theorem HV.lt{H:Heap}{s:Sl}{l:W}(h:HV H s l){k:Nat}(e:s.at k):k<H.next:=by
 rcases h with ⟨rfl,rfl⟩|⟨b,A,Z,h⟩
 ·exact absurd e Sl.at_nil
 ·obtain⟨a,h1,h2⟩:=e;have:=h.sa;rw[h1]at this;cases this;exact h2▸h.lt
theorem HV.keep{S:Nat→Prop}{H H':Heap}{s:Sl}{l:W}(h:HV H s l)(hk:Keep S H H')(hs:∀k,s.at k→¬S k):HV H' s l:=by
 rcases h with h|⟨b,A,Z,h⟩
 ·exact .inl h
 ·exact .inr ⟨b,A,Z,Vw.keep h hk (hs b h.at)⟩
theorem HV.of{H:Heap}{s:Sl}{l:W}(h:Whole H s (bytes l) t_5 1):HV H s l:=by
 by_cases hne:s.a=none
 ·rcases h with ⟨h1,h2⟩|⟨b,n,rfl,_⟩
  ·exact .inl ⟨h1,by simpa[bytes]using h2⟩
  ·cases hne
 ·obtain⟨b,v,_⟩:=Vw.of h hne;exact .inr ⟨b,[],[],v⟩
theorem HV.src{H:Heap}{s:Sl}{l:W}(h:HV H s l):srcCells H 1 s.n s.v=some (bytes l):=by
 rcases h with ⟨rfl,rfl⟩|⟨b,A,Z,h⟩
 ·rfl
 ·rw[Vw.src h (Nat.le_refl _),List.take_of_length_le (by rw[Vw.hn h];exact Nat.le_refl _)]
theorem BV.sub{H:Heap}{s:Sl}{b:Nat}{A Z:List Value}{l:W}(h:BV H s b A l Z){i j:Nat}(h1:i≤j)(h2:j≤l.length):∃A' Z',BV H (subS s i j 1) b A' ((l.drop i).take (j-i)) Z':=by have:=Vw.sub h h1 (by rw[h.n];exact h2);rw[Nat.mul_one,Nat.mul_one,Nat.mul_one]at this;refine⟨A++List.take i (bytes l),List.drop j (bytes l)++Z,?_⟩;unfold BV;rw[show bytes ((l.drop i).take (j-i))=((bytes l).drop i).take (j-i)by simp[bytes,List.map_drop,List.map_take]];exact this
theorem HV.s_l{H:Heap}{s:Sl}{l:W}(h:HV H s l){i:Nat}{k:IntKind}(hi:i≤l.length):∃y,readD (.subSl t_5 1 true false false) [s.v,.int k (i:Int)] H=some y.v∧HV H y (l.drop i)∧∀k,y.at k→s.at k:=by
 rcases h with ⟨rfl,rfl⟩|⟨b,A,Z,h⟩
 ·have:i=0:=by simpa using hi
  subst this;exact⟨Sl.nil,rfl,.inl ⟨rfl,rfl⟩,fun _ e=>e⟩
 ·obtain⟨A',Z',h'⟩:=h.sub hi (Nat.le_refl _);have hn:=h.n;refine⟨_,Vw.s_l h (by omega),.inr ⟨b,A',Z',?_⟩,fun k ⟨a,h1,h2⟩=>⟨⟨b,A.length,none⟩,h.sa,?_⟩⟩
  ·rw[hn];rw[List.take_of_length_le (by simp)]at h';exact h'
  ·simp only[subS,h.sa,Option.map_some,Option.some.injEq]at h1;subst h1;exact h2
theorem HV.s_h{H:Heap}{s:Sl}{l:W}(h:HV H s l){i:Nat}{k:IntKind}(hi:i≤l.length):∃y,readD (.subSl t_5 1 false true false) [s.v,.int k (i:Int)] H=some y.v∧HV H y (l.take i)∧∀k,y.at k→s.at k:=by
 rcases h with ⟨rfl,rfl⟩|⟨b,A,Z,h⟩
 ·have:i=0:=by simpa using hi
  subst this;exact⟨Sl.nil,rfl,.inl ⟨rfl,rfl⟩,fun _ e=>e⟩
 ·obtain⟨A',Z',h'⟩:=h.sub (Nat.zero_le i) hi;have hn:=h.n;refine⟨_,Vw.s_h h (by omega),.inr ⟨b,A',Z',?_⟩,fun k ⟨a,h1,h2⟩=>⟨⟨b,A.length,none⟩,h.sa,?_⟩⟩
  ·simpa using h'
  ·simp only[subS,h.sa,Option.map_some,Option.some.injEq]at h1;subst h1;exact h2
theorem HV.str{H:Heap}{s:Sl}{l:W}(h:HV H s l):readD .bytesStr [s.v] H=some (.string (S l)):=by
 rcases h with ⟨rfl,rfl⟩|⟨b,A,Z,h⟩
 ·rfl
 ·have hn:=h.n;obtain⟨h1,h2,h3,h4,o,st,h5⟩:=h;have:H.ldN ⟨b,A.length,none⟩ s.n=some (bytes l):=by rw[ldN_s h5 (by simp only[List.length_append,bytes_len];omega),List.drop_left' rfl,List.take_left' (by rw[bytes_len];omega)]
  simp only[readD,h1,this,bytesOf_bytes];split
  ·rename_i h0;rw[List.eq_nil_of_length_eq_zero (hn.symm.trans h0)]
  ·rfl
theorem BV.ld{H:Heap}{s:Sl}{b:Nat}{A Z:List Value}{l:W}(h:BV H s b A l Z){i:Nat}{c:UInt8}(hc:l[i]?=some c):Heap.ld1 H ⟨b,A.length+i,none⟩=some (.int .u8 c.toNat):=Vw.ld h (by simp[bytes,hc])
def firstT:List Nat:=List.replicate 128 240++List.replicate 66 241++List.replicate 30 2++[19]++List.replicate 12 3++[35,3,3,52,4,4,4,68]++List.replicate 11 241
def acceptT:List (Nat×Nat):=[(128,191),(160,191),(128,159),(144,191),(128,143)]++List.replicate 11 (0,0)
def accV(x:Nat×Nat):List Value:=[.int .u8 x.1,.int .u8 x.2]
structure Tab(H:Heap):Prop where
 f:∃c e o z st,H.get 2=some (.cells c e o z st)∧∀i,i<256→c[i]?=some (.int .u8 ((firstT.getD i 0:Nat):Int))
 a:∃c e o z st,H.get 3=some (.cells c e o z st)∧∀i,i<16→i*2+2≤c.length∧(c.drop (i*2)).take 2=accV (acceptT.getD i (0,0))
 lt:3<H.next
theorem Tab.keep{S:Nat→Prop}{H H':Heap}(t:Tab H)(hk:Keep S H H')(h2:¬S 2)(h3:¬S 3):Tab H':=by obtain⟨⟨c,e,o,z,st,h,hc⟩,⟨c',e',o',z',st',h',hc'⟩,hl⟩:=t;exact⟨⟨c,e,o,z,st,(hk.2 2 (by omega) h2).trans h,hc⟩,⟨c',e',o',z',st',(hk.2 3 hl h3).trans h',hc'⟩,Nat.lt_of_lt_of_le hl hk.1⟩
theorem Tab.ldf{H:Heap}(t:Tab H)(c:UInt8):Heap.ld1 H ⟨2,0+((c.toNat:Int)).toNat*1,none⟩=some (.int .u8 ((firstT.getD c.toNat 0:Nat):Int)):=by obtain⟨l,e,o,z,st,h,hc⟩:=t.f;rw[show(0+((c.toNat:Int)).toNat*1:Nat)=c.toNat by simp,ld1_s h,hc _ c.toNat_lt]
theorem Tab.lda{H:Heap}(t:Tab H){i:Nat}(hi:i<16):ldA H ⟨3,0+((i:Int)).toNat*2,none⟩ 2=some (.agg ⟨accV (acceptT.getD i (0,0))⟩):=by
 obtain⟨c,e,o,z,st,h,hc⟩:=t.a;obtain⟨h1,h2⟩:=hc i hi;have hl:Heap.ldN H ⟨3,i*2,none⟩ 2=some (accV (acceptT.getD i (0,0))):=by rw[ldN_s h h1,h2]
 rw[show(0+((i:Int)).toNat*2:Nat)=i*2 by simp];unfold ldA;rw[hl]
theorem and7{n:Nat}(h:n<256):IntKind.wrap .i64 (bitsI .and .u8 (n:Int) 7)=((n%8:Nat):Int):=by
 have e1:(BitVec.ofInt 8 (n:Int)).toNat=n:=by rw[BitVec.toNat_ofInt];omega
 have e2:(BitVec.ofInt 8 7).toNat=2^3-1:=by decide
 have e3:(BitVec.ofInt 8 (n:Int)&&&BitVec.ofInt 8 7).toNat=n%8:=by rw[BitVec.toNat_and,e1,e2,Nat.and_two_pow_sub_one_eq_mod]
 have e4:bitsI .and .u8 (n:Int) 7=((n%8:Nat):Int):=by show IntKind.wrap .u8 (((BitVec.ofInt 8 (n:Int)&&&BitVec.ofInt 8 7).toNat:Nat):Int)=_;rw[e3];unfold IntKind.wrap;simp only[IntKind.signed,IntKind.bits];simp;omega
 rw[e4,w64 (by omega)]
set_option maxRecDepth 100000 in
theorem firstT_lt(c:UInt8):firstT.getD c.toNat 0<256:=by
 have:∀i,i<256→firstT.getD i 0<256:=by decide
 exact this _ c.toNat_lt
def full2:W→Bool
 |[]=>false
 |c::_=>decide (c.toNat<128∨191<c.toNat)
def full:W→Bool
 |[]=>false
 |a::r=>let x:=firstT.getD a.toNat 0
  if x%8≤r.length+1 then true else
  match r with
  |[]=>false
  |b::r2=>if b.toNat<(acceptT.getD (x/16) (0,0)).1∨(acceptT.getD (x/16) (0,0)).2<b.toNat then true else
   full2 r2
theorem full_s(d:Nat){H:Heap}(t:Tab H){s:Sl}{l:W}(hv:HV H s l):∃H',X (d+1) n_69 [s.v] H=some (.bool (full l),H')∧Keep0 H H':=by
 rw[unicode_utf8_FullRune_eq];have hn:=hv.n;cases l with
 |nil=>rw[if_pos (show decide ((s.n:Int)=0)=true from decide_eq_true (by simp at hn;omega))];exact⟨H,rfl,Keep.refl _⟩
 |cons a r=>
  obtain⟨h,_⟩|⟨b,A,Z,v⟩:=hv
  ·subst h;simp[]at hn
  simp only[List.length_cons]at hn;rw[if_neg (show¬decide ((s.n:Int)=0)=true from dneg (by omega)),v.sa];simp only[optK_s];rw[if_pos (show(0:Int)≤0∧(0:Int)<(s.n:Int)by omega),show ap ⟨b,A.length,none⟩ 0=⟨b,A.length+0,none⟩from rfl,v.ld (i:=0) rfl];simp only[optK_s,asI_s];have ha:=a.toNat_lt;rw[if_pos (show(0:Int)≤(a.toNat:Int)∧(a.toNat:Int)<256 by omega),t.ldf a];simp only[optK_s,asI_s];have hx:=firstT_lt a;rw[and7 hx];unfold full;simp only;generalize firstT.getD a.toNat 0=x at hx;by_cases h1:x%8≤r.length+1
  ·rw[if_pos (show decide (((x%8:Nat):Int)≤(s.n:Int))=true from decide_eq_true (by omega)),if_pos h1];exact⟨H,rfl,Keep.refl _⟩
  ·rw[if_neg (show¬decide (((x%8:Nat):Int)≤(s.n:Int))=true from dneg (by omega)),if_neg h1];have hd:Int.fdiv (x:Int) 16=((x/16:Nat):Int):=by rw[Int.fdiv_eq_ediv_of_nonneg _ (by omega)];omega
   rw[hd,if_pos (show(0:Int)≤((x/16:Nat):Int)∧((x/16:Nat):Int)<16 by omega),t.lda (show x/16<16 by omega)];simp only[optK_s,asA_s,newK_s];have k9:Keep0 H (H.new (.cells [.int .u8 0,.int .u8 0] t_160 false 0 false)):=Keep.new _ _;have g9:(H.new (.cells [.int .u8 0,.int .u8 0] t_160 false 0 false)).get H.next=some (.cells [.int .u8 0,.int .u8 0] t_160 false 0 false):=by simp
   generalize H.new (.cells [.int .u8 0,.int .u8 0] t_160 false 0 false)=H9 at*;generalize acceptT.getD (x/16) (0,0)=q;have es:∀K,effK (.store 2) [P0 H.next,.agg ⟨accV q⟩] H9 K=K (.tuple #[]) (H9.put H.next (.cells (accV q) t_160 false 0 false)):=fun K=>by simp only[effK];rw[if_neg (by omega),if_pos ⟨rfl,rfl,by omega⟩,show H9.stN ⟨H.next,0,none⟩ (cellsL (.agg ⟨accV q⟩))=some (H9.put H.next (.cells (accV q) t_160 false 0 false))from by simp only[Heap.stN,g9];rfl];rfl
   rw[es];have k11:Keep0 H (H9.put H.next (.cells (accV q) t_160 false 0 false)):=k9.fresh (Keep.put (S:=fun k=>k=H.next) _ _ _ rfl) fun k e=>by have e':k=H.next:=e;omega
   have g11:(H9.put H.next (.cells (accV q) t_160 false 0 false)).get H.next=some (.cells (accV q) t_160 false 0 false):=by simp
   have v11:BV _ s b A (a::r) Z:=Vw.keep v k11 id;generalize H9.put H.next (.cells (accV q) t_160 false 0 false)=H11 at*
   have fin:∀z,∃H',j1d d z H11=some (.bool z,H')∧Keep0 H H':=fun z=>by
    rw[j1d_eq];cases z with
    |true=>rw[if_pos rfl];exact⟨H11,rfl,k11⟩
    |false=>rw[if_neg ff];exact⟨H11,rfl,k11⟩
   cases r with
   |nil=>simp only[List.length_nil]at hn;rw[if_neg (show¬decide ((1:Int)<(s.n:Int))=true from dneg (by omega)),jk_eq,if_neg ff,if_neg (show¬decide ((2:Int)<(s.n:Int))=true from dneg (by omega))];exact fin false
   |cons b1 r2=>
    simp only[List.length_cons]at hn;rw[if_pos (show decide ((1:Int)<(s.n:Int))=true from decide_eq_true (by omega)),if_pos (show(0:Int)≤1∧(1:Int)<(s.n:Int)by omega),show ap ⟨b,A.length,none⟩ 1=⟨b,A.length+1,none⟩from rfl,v11.ld (i:=1) rfl];simp only[optK_s,asI_s];rw[(ld1_s g11).trans (show(accV q)[0]?=some (.int .u8 (q.1:Int))from rfl)];simp only[optK_s,asI_s];have rest:∀z,z=decide (b1.toNat<q.1∨q.2<b1.toNat)→∃H',jk d s (s.n:Int) z H11=some (.bool (if b1.toNat<q.1∨q.2<b1.toNat then true else full2 r2),H')∧Keep0 H H':=fun z hz=>by
     rw[jk_eq];by_cases hq:b1.toNat<q.1∨q.2<b1.toNat
     ·rw[if_pos (show z=true by rw[hz];exact decide_eq_true hq),if_pos hq];exact⟨H11,rfl,k11⟩
     ·rw[if_neg (show¬z=true by rw[hz];exact dneg hq),if_neg hq];cases r2 with
      |nil=>simp only[List.length_nil]at hn;rw[if_neg (show¬decide ((2:Int)<(s.n:Int))=true from dneg (by omega))];exact fin false
      |cons c r3=>
       simp only[List.length_cons]at hn;rw[if_pos (show decide ((2:Int)<(s.n:Int))=true from decide_eq_true (by omega)),v11.sa];simp only[optK_s];rw[if_pos (show(0:Int)≤2∧(2:Int)<(s.n:Int)by omega),show ap ⟨b,A.length,none⟩ 2=⟨b,A.length+2,none⟩from rfl,v11.ld (i:=2) rfl];simp only[optK_s,asI_s];by_cases hc:c.toNat<128
       ·rw[if_pos (show decide ((c.toNat:Int)<128)=true from decide_eq_true (by omega)),show full2 (c::r3)=true from decide_eq_true (.inl hc)];exact fin true
       ·rw[if_neg (show¬decide ((c.toNat:Int)<128)=true from dneg (by omega))];rw[if_pos (show(0:Int)≤2∧(2:Int)<(s.n:Int)by omega),show decide ((191:Int)<(c.toNat:Int))=full2 (c::r3)from decide_eq_decide.2 (by omega)];exact fin _
    by_cases h2:b1.toNat<q.1
    ·rw[if_pos (show decide ((b1.toNat:Int)<(q.1:Int))=true from decide_eq_true (by omega))];exact rest true (decide_eq_true (.inl h2)).symm
    ·rw[if_neg (show¬decide ((b1.toNat:Int)<(q.1:Int))=true from dneg (by omega)),(ld1_s g11).trans (show(accV q)[1]?=some (.int .u8 (q.2:Int))from rfl)];simp only[optK_s,asI_s];rw[if_pos (show(0:Int)≤1∧(1:Int)<(s.n:Int)by omega)];exact rest (decide ((q.2:Int)<(b1.toNat:Int))) (decide_eq_decide.2 ⟨fun e=>.inr (by omega),fun e=>e.elim (fun e=>absurd e h2) (fun e=>by omega)⟩)
theorem dec_pos(s:ByteArray)(i:Nat):1≤(Utf8.decode s i).2:=by
 unfold Utf8.decode;dsimp only
 repeat' split
 all_goals (first|decide|simp)
def runesAt(l:W):Nat→Nat→List Int
 |0,_=>[]
 |m+1,i=>if i<l.length then((Utf8.decode (S l) i).1:Int)::runesAt l m (i+(Utf8.decode (S l) i).2)else []
def runes(l:W):List Int:=runesAt l l.length 0
def runeV(l:List Int):List Value:=l.map fun r=>.int .i32 r
theorem runeV_len(l:List Int):(runeV l).length=l.length:=by simp[runeV]
theorem runesAt_len(l:W):∀m i,(runesAt l m i).length≤m
 |0,_=>Nat.le_refl _
 |m+1,i=>by
  unfold runesAt;split
  ·have:=runesAt_len l m (i+(Utf8.decode (S l) i).2);simp;omega
  ·simp
theorem Runes_loop(d:Nat)(l:W)(hl:l.length≤2000000){H0:Heap}{q:Nat}(hq:H0.next≤q):∀(k m i:Nat) {H:Heap} {s:Sl} {cs:List Int},k<m→l.length≤i+k→H.get q=some (.iter (S l) i)→q<H.next→Whole H s (runeV cs) t_21 1→cs.length≤i→i≤l.length+4→(∀k,s.at k→H0.next≤k∧k≠q)→Keep0 H0 H→
  ∃y H',j1e d m s q H=some (y.v,H')∧Whole H' y (runeV (cs++runesAt l k i)) t_21 1∧(∀k,y.at k→H0.next≤k)∧Keep0 H0 H':=fun k=>by
 induction k with
 |zero=>intro m i H s cs hm hi hg hql hw hcs hi4 hs hk;obtain⟨m,rfl⟩:∃m',m=m'+1:=⟨m-1,by omega⟩;rw[j1e_s];simp only[nextK,hg,slenS];rw[if_pos trivial,if_neg (show¬i<l.length by omega)];exact⟨s,H,rfl,by simpa[runesAt]using hw,fun k e=>(hs k e).1,hk⟩
 |succ k ih=>
  intro m i H s cs hm hi hg hql hw hcs hi4 hs hk;obtain⟨m,rfl⟩:∃m',m=m'+1:=⟨m-1,by omega⟩;rw[j1e_s];simp only[nextK,hg,slenS];rw[if_pos trivial];unfold runesAt;by_cases hlt:i<l.length
  ·rw[if_pos hlt,if_pos hlt];have hp:=dec_pos (S l) i;have h4:(Utf8.decode (S l) i).2≤4:=by
    unfold Utf8.decode;dsimp only
    repeat' split
    all_goals (first|decide|simp)
   generalize Utf8.decode (S l) i=e at*;have kp:Keep (fun k=>k=q) H (H.put q (.iter (S l) (i+e.2))):=Keep.put _ _ _ rfl;have g1:(H.put q (.iter (S l) (i+e.2))).get q=some (.iter (S l) (i+e.2)):=by simp
   have n1:(H.put q (.iter (S l) (i+e.2))).next=H.next:=rfl
   have w1:=Whole.keep hw kp fun k e e'=>(hs k e).2 e';have k1:Keep0 H0 (H.put q (.iter (S l) (i+e.2))):=hk.fresh kp fun k e=>by have e':k=q:=e;omega
   generalize H.put q (.iter (S l) (i+e.2))=H1 at*;simp only[newK_s];have hn:s.n=cs.length:=by have:=(Whole.len hw).1;rw[runeV_len]at this;omega
   obtain⟨y,H2,e2,w2,k2,k2',f2,_⟩:=push_whole (bytes:=4) (new:=[.int .i32 (e.1:Int)]) w1 rfl (by omega) (by omega) (by omega);rw[e2];simp only[asSL_k];have hsq:¬s.at q:=fun e=>(hs q e).2 rfl;have n12:=k2.1;have kn:=hk.1;obtain⟨y',H',a1,a2,a3,a4⟩:=ih m (i+e.2) (cs:=cs++[(e.1:Int)]) (by omega) (by omega) ((k2.2 q (by omega) hsq).trans g1) (by omega) (by simpa[runeV]using w2) (by simp;omega) (by omega) (fun k e=>by have:=f2 k e;omega) (k1.fresh k2 fun k e=>(hs k e).1);exact⟨y',H',a1,by simpa using a2,a3,a4⟩
  ·rw[if_neg hlt,if_neg hlt];exact⟨s,H,rfl,by simpa using hw,fun k e=>(hs k e).1,hk⟩
theorem Runes_s(d:Nat)(l:W)(hl:l.length≤2000000)(H:Heap):∃y H',X (d+1) n_48 [.string (S l)] H=some (y.v,H')∧Whole H' y (runeV (runes l)) t_21 1∧(∀k,y.at k→H.next≤k)∧Keep0 H H':=by rw[utf_Runes_eq];simp only[newK_s];obtain⟨y,H',a1,a2,a3,a4⟩:=Runes_loop d l hl (H0:=H) (q:=H.next) (Nat.le_refl _) l.length NN 0 (H:=H.new (.iter (S l) 0)) (s:=Sl.nil) (cs:=[]) (NN_big _ (by omega)) (by omega) (by simp) (by simp) (.inl ⟨rfl,rfl⟩) (by simp) (by omega) (fun k e=>absurd e Sl.at_nil) (Keep.new _ _);exact⟨y,H',a1,by simpa[runes]using a2,a3,a4⟩
def isStart(c:UInt8):Bool:= !decide (bitsI .and .u8 (c.toNat:Int) 192=128)
def cutR:W→Nat
 |[]=>0
 |c::r=>if isStart c=true∧full (c::r)=false then 0 else cutR r+1
theorem cutR_le:∀l:W,cutR l≤l.length
 |[]=>Nat.le_refl _
 |c::r=>by unfold cutR;have:=cutR_le r;split<;>simp<;>omega
def cut(l:W):Nat:=(l.length-3)+cutR (l.drop (l.length-3))
theorem cut_le(l:W):cut l≤l.length:=by have:=cutR_le (l.drop (l.length-3));rw[List.length_drop]at this;unfold cut;omega
def DR(H:Heap)(dp:Nat)(s:Sl)(l:W):Prop:=(∃e o st,H.get dp=some (.cells [s.v] e o 0 st))∧dp<H.next∧HV H s l∧¬s.at dp
theorem DR.keep{S:Nat→Prop}{H H':Heap}{dp:Nat}{s:Sl}{l:W}(h:DR H dp s l)(hk:Keep S H H')(h1:¬S dp)(h2:∀k,s.at k→¬S k):DR H' dp s l:=by obtain⟨⟨e,o,st,a⟩,b,c,f⟩:=h;exact⟨⟨e,o,st,(hk.2 dp b h1).trans a⟩,Nat.lt_of_lt_of_le b hk.1,c.keep hk h2,f⟩
theorem DFeed_end(d:Nat){H0 H:Heap}{dp:Nat}{s0 s:Sl}{l0 l:W}(hl:l.length≤2000000)(dr:DR H0 dp s0 l0)(hs:∀k,s.at k→H0.next≤k)(k0:Keep0 H0 H)(hv:HV H s l){c j:Nat}(m:Nat)(hc:c≤l.length)(hj:c≤j):∃y s' H',jl (d+1) (m+1) dp s (c:Int) (j:Int) H=some (y.v,H')∧Whole H' y (runeV (runes (l.take c))) t_21 1∧DR H' dp s' (l.drop c)∧(∀k,y.at k→H0.next≤k∧¬s'.at k)∧(∀k,s'.at k→H0.next≤k)∧Keep (fun k=>k=dp) H0 H':=by
 rw[jl_s,if_neg (show¬decide ((j:Int)<(c:Int))=true from dneg (by omega))];obtain⟨s1,e1,v1,a1⟩:=hv.s_l (k:=.i64) hc;rw[e1];simp only[optK_s,asSL_k];obtain⟨⟨e,o,st,g0⟩,hlt,_,_⟩:=dr;have g1:=k0.get hlt g0;have hn:=k0.1;have hlo:=st1_s (v:=s1.v) (off:=0) g1 (by simp) (by omega);rw[hlo];simp only[optK_s];have kp:Keep (fun k=>k=dp) H (H.put dp (.cells ([s0.v].set 0 s1.v) e o 0 st)):=Keep.put _ _ _ rfl;have g14:(H.put dp (.cells ([s0.v].set 0 s1.v) e o 0 st)).get dp=some (.cells [s1.v] e o 0 st):=by simp
 have n14:(H.put dp (.cells ([s0.v].set 0 s1.v) e o 0 st)).next=H.next:=rfl
 generalize H.put dp (.cells ([s0.v].set 0 s1.v) e o 0 st)=H14 at*;have hd:∀k,s.at k→¬k=dp:=fun k e=>by have:=hs k e;omega
 have v14:=hv.keep kp hd;obtain⟨s2,e2,v2,a2⟩:=v14.s_h (k:=.i64) hc;rw[e2];simp only[optK_s,asSL_k];rw[v2.str];simp only[optK_s,asS_s];obtain⟨y,H20,e20,w20,f20,k20⟩:=Runes_s d (l.take c) (by rw[List.length_take];omega) H14;rw[e20];simp only[callK_s,asSL_k];have v1':=v1.keep kp fun k e=>hd k (a1 k e);refine⟨y,s1,H20,rfl,w20,⟨⟨e,o,st,k20.get (by omega) g14⟩,by have:=k20.1;omega,v1'.keep k20 fun _ _ e=>e,fun e=>hd dp (a1 dp e) rfl⟩,fun k e=>⟨by have:=f20 k e;omega,fun e'=>by have:=f20 k e;have:=v1'.lt e';omega⟩,fun k e=>hs k (a1 k e),?_⟩;exact(k0.to.trans kp fun _ _ e=>e).trans k20.to fun _ _ e=>e
theorem DFeed_loop(d:Nat){H0:Heap}{dp:Nat}{s0 s:Sl}{l0 l:W}(hl:l.length≤2000000)(t0:Tab H0)(dr:DR H0 dp s0 l0)(hs:∀k,s.at k→H0.next≤k):∀(r:W) (m i:Nat) {H:Heap},r.length<m→l.drop i=r→i+r.length=l.length→Keep0 H0 H→HV H s l→
  ∃y s' H',jl (d+1) m dp s (l.length:Int) (i:Int) H=some (y.v,H')∧Whole H' y (runeV (runes (l.take (i+cutR r)))) t_21 1∧DR H' dp s' (l.drop (i+cutR r))∧(∀k,y.at k→H0.next≤k∧¬s'.at k)∧(∀k,s'.at k→H0.next≤k)∧Keep (fun k=>k=dp) H0 H':=fun r=>by
 induction r with
 |nil=>intro m i H hm _ hi k0 hv;obtain⟨m,rfl⟩:∃m',m=m'+1:=⟨m-1,by simp at hm;omega⟩;simp only[List.length_nil]at hi;rw[show i+cutR []=l.length by unfold cutR;omega];exact DFeed_end d hl dr hs k0 hv m (Nat.le_refl _) (by omega)
 |cons c r ih=>
  intro m i H hm hd hi k0 hv;simp only[List.length_cons]at hm hi;obtain⟨m,rfl⟩:∃m',m=m'+2:=⟨m-2,by omega⟩;have hn:=hv.n;have hc:l[i]?=some c:=by have:=congrArg (fun x=>x[0]?) hd;simpa using this
  have hdr:l.drop (i+1)=r:=by rw[←List.drop_drop,hd];rfl
  rw[jl_s,if_pos (show decide ((i:Int)<(l.length:Int))=true from decide_eq_true (by omega))];have vv:=hv;obtain⟨h,_⟩|⟨b,A,Z,v⟩:=vv
  ·subst h;simp[]at hn;omega
  rw[v.sa];simp only[optK_s];rw[if_pos (show(0:Int)≤(i:Int)∧(i:Int)<(s.n:Int)by omega),show ap ⟨b,A.length,none⟩ (((i:Int).toNat)*1)=⟨b,A.length+i,none⟩by simp[ap],v.ld hc];simp only[optK_s,asI_s];rw[unicode_utf8_RuneStart_eq];simp only[callK_s,asB_s];have G:∀(z:Bool) (H1:Heap),z=decide (isStart c=true∧full (c::r)=false)→Keep0 H0 H1→HV H1 s l→∃y s' H',j2n (d+1) (m+1) dp s (l.length:Int) (i:Int) z H1=some (y.v,H')∧Whole H' y (runeV (runes (l.take (i+cutR (c::r))))) t_21 1∧DR H' dp s' (l.drop (i+cutR (c::r)))∧(∀k,y.at k→H0.next≤k∧¬s'.at k)∧(∀k,s'.at k→H0.next≤k)∧Keep (fun k=>k=dp) H0 H':=fun z H1 hz k1 hv1=>by
   rw[j2n_eq];unfold cutR;by_cases h:isStart c=true∧full (c::r)=false
   ·rw[if_pos (show z=true by rw[hz];exact decide_eq_true h),if_pos h,j2o_eq,wi (by omega)];exact DFeed_end d hl dr hs k1 hv1 m (by omega) (by omega)
   ·rw[if_neg (show¬z=true by rw[hz];exact dneg h),if_neg h,j2o_eq,wi (by omega),show i+(cutR r+1)=(i+1)+cutR r by omega];exact ih (m+1) (i+1) (by omega) hdr (by omega) k1 hv1
  by_cases hst:isStart c=true
  ·rw[if_pos (show(!decide (bitsI .and .u8 (c.toNat:Int) 192=128))=true from hst)];obtain⟨s1,e1,v1,a1⟩:=hv.s_l (k:=.i64) (i:=i) (by omega);rw[e1];simp only[optK_s,asSL_k];rw[hd]at v1;obtain⟨H10,e10,k10⟩:=full_s d (t0.keep k0 id id) v1;rw[e10];simp only[callK_s,asB_s];refine G _ _ ?_ (k0.trans k10) (hv.keep k10 fun _ _ e=>e);cases full (c::r)<;>simp[hst]
  ·rw[if_neg (show¬(!decide (bitsI .and .u8 (c.toNat:Int) 192=128))=true from hst)];exact G false H (decide_eq_false fun e=>hst e.1).symm k0 hv
theorem DFeed_s(d:Nat){H:Heap}(t:Tab H){dp:Nat}{s0 x:Sl}{l0 l1:W}(dr:DR H dp s0 l0)(hx:HV H x l1)(h0:l0.length≤3)(h1:l1.length≤1900000):∃y s' H',X (d+2) n_57 [P0 dp,x.v] H=some (y.v,H')∧Whole H' y (runeV (runes ((l0++l1).take (cut (l0++l1))))) t_21 1∧DR H' dp s' ((l0++l1).drop (cut (l0++l1)))∧(∀k,y.at k→H.next≤k∧¬s'.at k)∧(∀k,s'.at k→H.next≤k)∧Keep (fun k=>k=dp) H H':=by
 rw[utf_Decoder_Feed_eq];simp only[newK_s];have k2:Keep0 H (H.new (.cells [] t_5 false 0 false)):=Keep.new _ _;have n2:(H.new (.cells [] t_5 false 0 false)).next=H.next+1:=by simp
 have w2:Whole (H.new (.cells [] t_5 false 0 false)) ⟨some ⟨H.next,0,none⟩,0,0⟩ [] t_5 1:=.inr ⟨H.next,0,rfl,rfl,by simp,false,false,by simp⟩;generalize H.new (.cells [] t_5 false 0 false)=H2 at*;obtain⟨e,o,st,g0⟩:=dr.1;rw[(ld1_s (k2.get dr.2.1 g0)).trans (show [s0.v][0]?=some s0.v from rfl)];simp only[optK_s,asSL_k];have hs0:HV H s0 l0:=dr.2.2.1;have hn0:=hs0.n;have hn1:=hx.n;have hat:∀k,(⟨some ⟨H.next,0,none⟩,0,0⟩:Sl).at k→k=H.next:=fun k ⟨a,h1,h2⟩=>by cases h1;exact h2.symm
 obtain⟨y3,H6,e6,w6,k6,f6,n6,_⟩:=append_whole (bytes:=1) (str:=false) (x:=s0.v) (n:=s0.n) (new:=bytes l0) w2 rfl (hs0.keep k2 fun _ _ e=>e).src (by rw[bytes_len];omega) (by show(0+s0.n)*1≤_;omega) (by omega) (by omega);rw[show(Value.slice (some ⟨H.next,0,none⟩) 0 0)=(⟨some ⟨H.next,0,none⟩,0,0⟩:Sl).v from rfl,e6];simp only[asSL_k];have hy3:∀k,y3.at k→H.next≤k:=fun k e=>(f6 k e).elim (fun e=>by have:=hat k e;omega) (fun e=>by omega)
 have k06:Keep0 H H6:=k2.fresh k6 fun k e=>by have:=hat k e;omega
 have n6':y3.n=s0.n:=by simpa using n6
 obtain⟨y4,H9,e9,w9,k9,f9,n9,_⟩:=append_whole (bytes:=1) (str:=false) (x:=x.v) (n:=x.n) (new:=bytes l1) w6 rfl (hx.keep k06 fun _ _ e=>e).src (by rw[bytes_len];omega) (by omega) (by omega) (by omega);rw[e9];simp only[asSL_k];have hn06:=k06.1;have hy4:∀k,y4.at k→H.next≤k:=fun k e=>(f9 k e).elim (hy3 k) (fun e=>by omega)
 have k09:Keep0 H H9:=k06.fresh k9 fun k e=>hy3 k e;have hv:HV H9 y4 (l0++l1):=HV.of (by simpa[bytes]using w9);have hl:(l0++l1).length≤2000000:=by simp;omega
 have hny:(y4.n:Int)=((l0++l1).length:Int):=by have:=hv.n;omega
 rw[hny];generalize l0++l1=l at*;have hst:(if 0<(IntKind.wrap .i64 ((IntKind.wrap .i64 ((l.length:Int)-4))+1))then(IntKind.wrap .i64 ((IntKind.wrap .i64 ((l.length:Int)-4))+1))else 0)=((l.length-3:Nat):Int):=by rw[w64 (n:=(l.length:Int)-4) (by omega),w64 (by omega)];split<;>omega
 rw[hst];exact DFeed_loop d hl t dr hy4 (l.drop (l.length-3)) NN (l.length-3) (NN_big _ (by rw[List.length_drop];omega)) rfl (by rw[List.length_drop];omega) k09 hv
def pFeed(c:PS):List Int→PS×List Act
 |[]=>(c,[])
 |r::l=>let q:=pRune c r
  let z:=pFeed q.1 l
  (z.1,match q.2 with|some a=>a::z.2|none=>z.2)
theorem pFeed_len{c:PS}:∀l,(pFeed c l).2.length≤l.length:=fun l=>by
 induction l generalizing c with
 |nil=>exact Nat.le_refl _
 |cons r l ih=>have:=ih (c:=(pRune c r).1);unfold pFeed;simp only;split<;>simp<;>omega
abbrev AL:=List (Act×Sl)
def actsV(l:AL):List Value:=l.flatMap fun x=>actL x.1 x.2
theorem actsV_len(l:AL):(actsV l).length=l.length*4:=fm_len (fun x:Act×Sl=>actL x.1 x.2) 4 (fun _=>rfl) l
structure AR(N:Nat)(H:Heap)(x:Sl)(l:AL):Prop where
 w:Whole H x (actsV l) t_110 4
 p:∀a∈l,Whole H a.2 (intL a.1.params) t_3 1
 x0:∀k,x.at k→N≤k
 a0:∀a∈l,∀k,a.2.at k→N≤k∧¬x.at k
theorem AR.keep{N:Nat}{S:Nat→Prop}{H H':Heap}{x:Sl}{l:AL}(h:AR N H x l)(hk:Keep S H H')(h1:∀k,x.at k→¬S k)(h2:∀a∈l,∀k,a.2.at k→¬S k):AR N H' x l:=⟨Whole.keep h.w hk h1,fun a ha=>Whole.keep (h.p a ha) hk (h2 a ha),h.x0,h.a0⟩
theorem AR.n{N:Nat}{H:Heap}{x:Sl}{l:AL}(h:AR N H x l):x.n=l.length:=by have:=(Whole.len h.w).1;rw[actsV_len]at this;omega
theorem ld_act{H:Heap}{p:Nat}{l:List Value}(h:H.get p=some (.cells l t_110 false 0 false))(hl:l.length=4):ldA H ⟨p,0,none⟩ 4=some (.agg ⟨l⟩):=by unfold ldA;rw[ldN_s h (by omega),List.drop_zero,List.take_of_length_le (by omega)]
structure FS(H0 H:Heap)(pp dp:Nat)(s0 s r x:Sl)(c:PS)(rs:List Int)(l:AL):Prop where
 pr:PR H pp dp s c
 ok:c.fine
 ar:AR H0.next H x l
 sx:∀k,x.at k→¬s.at k
 sa:∀a∈l,∀k,a.2.at k→¬s.at k
 ss:∀k,s.at k→s0.at k∨H0.next≤k
 rr:Whole H0 r (runeV rs) t_21 1
 r0:∀k,r.at k→k≠pp∧¬s0.at k
 p0:pp<H0.next
 hk:Keep (fun k=>k=pp∨s0.at k) H0 H
theorem PFeed_loop(d:Nat){H0:Heap}{pp dp:Nat}{s0 r:Sl}{rs:List Int}(hrs:rs.length≤2000000):∀(r2:List Int) (m i:Nat) {H:Heap} {s x:Sl} {c:PS} {l:AL},r2.length<m→rs.drop i=r2→i+r2.length=rs.length→l.length≤i→FS H0 H pp dp s0 s r x c rs l→
  ∃y s' H' l',j1g (d+3) m pp x r (rs.length:Int) (i:Int) H=some (y.v,H')∧FS H0 H' pp dp s0 s' r y (pFeed c r2).1 rs l'∧l'.map Prod.fst=l.map Prod.fst++(pFeed c r2).2:=fun r2=>by
 induction r2 with
 |nil=>intro m i H s x c l hm _ hi _ f;obtain⟨m,rfl⟩:∃m',m=m'+1:=⟨m-1,by simp at hm;omega⟩;simp only[List.length_nil]at hi;rw[j1g_s,if_neg (show¬decide ((i:Int)<(rs.length:Int))=true from dneg (by omega))];exact⟨x,s,H,l,rfl,f,by simp[pFeed]⟩
 |cons n r2 ih=>
  intro m i H s x c l hm hd hi hli f;simp only[List.length_cons]at hm hi;obtain⟨m,rfl⟩:∃m',m=m'+1:=⟨m-1,by omega⟩;have hc:rs[i]?=some n:=by have:=congrArg (fun x=>x[0]?) hd;simpa using this
  have hdr:rs.drop (i+1)=r2:=by rw[←List.drop_drop,hd];rfl
  have hrn:r.n=rs.length:=by have:=(Whole.len f.rr).1;rw[runeV_len]at this;omega
  have wr:=Whole.keep f.rr f.hk fun k e e'=>e'.elim (f.r0 k e).1 (f.r0 k e).2;have hrne:r.a≠none:=by
   rcases f.rr with ⟨h1,_⟩|⟨b,q,h1,_⟩
   ·rw[h1]at hrn;simp[]at hrn;omega
   ·rw[h1];simp
  obtain⟨b,vw,hat⟩:=Vw.of wr hrne;rw[j1g_s,if_pos (show decide ((i:Int)<(rs.length:Int))=true from decide_eq_true (by omega)),vw.sa];simp only[optK_s];have hld:=vw.ld (i:=i) (x:=.int .i32 n) (by simp[runeV,hc]);rw[if_pos (show(0:Int)≤(i:Int)∧(i:Int)<(r.n:Int)by omega),show ap ⟨b,([]:List Value).length,none⟩ (((i:Int).toNat)*1)=⟨b,([]:List Value).length+i,none⟩by simp[ap],hld];simp only[optK_s,asI_s];obtain⟨y,bb,s',H1,eR,hb,wy,pr1,hy,hs',hk1⟩:=rune_s d f.pr f.ok n;rw[eR,callK_s,castAB,castAB];simp only[List.getElem?_cons_zero,List.getElem?_cons_succ,optK_s,asA_s,asB_s,newK_s];have ok1:=pRune_ok f.ok n;have hN:=f.hk.1;have hN1:=hk1.1;have k01:Keep (fun k=>k=pp∨s0.at k) H0 H1:=⟨by omega,fun k hk hn=>(hk1.2 k (by omega) (fun e=>e.elim (fun e=>hn (.inl e)) (fun e=>(f.ss k e).elim (fun e=>hn (.inr e)) (fun e=>by omega)))).trans (f.hk.2 k hk hn)⟩;have hxl:∀k,x.at k→k<H.next:=fun k e=>Whole.lt f.ar.w e
  have hal:∀a∈l,∀k,a.2.at k→k<H.next:=fun a ha k e=>Whole.lt (f.ar.p a ha) e
  have ar1:AR H0.next H1 x l:=f.ar.keep hk1 (fun k e e'=>e'.elim (fun e'=>by have:=f.ar.x0 k e;have:=f.p0;omega) (f.sx k e)) (fun a ha k e e'=>e'.elim (fun e'=>by have:=(f.ar.a0 a ha k e).1;have:=f.p0;omega) (f.sa a ha k e))
  have ss1:∀k,s'.at k→s0.at k∨H0.next≤k:=fun k e=>(hs' k e).elim (f.ss k) fun e=>.inr (by omega)
  have sx1:∀k,x.at k→¬s'.at k:=fun k e e'=>(hs' k e').elim (f.sx k e) (fun e'=>by have:=hxl k e;omega);have sa1:∀a∈l,∀k,a.2.at k→¬s'.at k:=fun a ha k e e'=>(hs' k e').elim (f.sa a ha k e) (fun e'=>by have:=hal a ha k e;omega);have f1:FS H0 H1 pp dp s0 s' r x (pRune c n).1 rs l:=⟨pr1,ok1,ar1,sx1,sa1,ss1,f.rr,f.r0,f.p0,k01⟩;have hfeed:pFeed c (n::r2)=((pFeed (pRune c n).1 r2).1,match(pRune c n).2 with|some a=>a::(pFeed (pRune c n).1 r2).2|none=>(pFeed (pRune c n).1 r2).2):=rfl;rw[hfeed];have k2:Keep0 H1 (H1.new (.cells [.int .i64 0,.int .i32 0,.bool false,.slice none 0 0] t_110 false 0 false)):=Keep.new _ _;have g2:(H1.new (.cells [.int .i64 0,.int .i32 0,.bool false,.slice none 0 0] t_110 false 0 false)).get H1.next=some (.cells zeroA t_110 false 0 false):=by simp;rfl
  have n2:(H1.new (.cells [.int .i64 0,.int .i32 0,.bool false,.slice none 0 0] t_110 false 0 false)).next=H1.next+1:=by simp
  generalize H1.new (.cells [.int .i64 0,.int .i32 0,.bool false,.slice none 0 0] t_110 false 0 false)=H2 at*;rw[st_act _ _ g2 rfl];have k3:Keep0 H1 (H2.put H1.next (.cells (actL ((pRune c n).2.getD act0) y) t_110 false 0 false)):=k2.fresh (Keep.put (S:=fun k=>k=H1.next) _ _ _ rfl) fun k e=>by have e':k=H1.next:=e;omega
  have g3:(H2.put H1.next (.cells (actL ((pRune c n).2.getD act0) y) t_110 false 0 false)).get H1.next=some (.cells (actL ((pRune c n).2.getD act0) y) t_110 false 0 false):=by simp
  generalize H2.put H1.next (.cells (actL ((pRune c n).2.getD act0) y) t_110 false 0 false)=H3 at*
  have pr3:=pr1.new k3;have wy3:Whole H3 y (intL ((pRune c n).2.getD act0).params) t_3 1:=Whole.keep wy k3 fun _ _ e=>e;have ar3:AR H0.next H3 x l:=ar1.keep k3 (fun _ _ e=>e) fun _ _ _ _ e=>e
  have k03:Keep (fun k=>k=pp∨s0.at k) H0 H3:=k01.trans k3.to fun _ _ e=>e;have hyl:∀k,y.at k→k<H1.next:=fun k e=>Whole.lt wy e
  have hs1l:∀k,s'.at k→k<H1.next:=fun k e=>Whole.lt pr1.par e
  have hn3:=k3.1;cases hq:(pRune c n).2 with
  |none=>rw[hq]at hb;rw[if_neg (show¬bb=true by rw[hb];simp),j2p_eq,wi (by omega)];exact ih m (i+1) (by omega) hdr (by omega) (by omega) ⟨pr3,ok1,ar3,sx1,sa1,ss1,f.rr,f.r0,f.p0,k03⟩
  |some a=>
   rw[hq]at hb wy3 g3;rw[if_pos (show bb=true by rw[hb];rfl),ld_act g3 rfl];simp only[optK_s,asA_s];rw[show fillL [(0,4)] [.agg ⟨actL ((some a).getD act0) y⟩] [.int .i64 0,.int .i32 0,.bool false,.slice none 0 0]=some (actL a y)from rfl];simp only[optK_s];have hxn:=ar3.n;obtain⟨y2,H5,e5,w5,k5,k5',f5,_⟩:=push_whole (bytes:=40) (new:=actL a y) ar3.w rfl (by omega) (by omega) (by omega);rw[e5];simp only[asSL_k];rw[j2p_eq,wi (by omega)];have hn5:=k5.1;have hf5:∀k,y2.at k→H3.next<k:=f5
   have hxpp:∀k,x.at k→¬k=pp:=fun k e=>by have:=f.ar.x0 k e;have:=f.p0;omega
   have pr5:PR H5 pp dp s' (pRune c n).1:=pr3.keep k5 (fun e=>hxpp pp e rfl) fun k e e'=>sx1 k e' e;have hyx:∀k,y.at k→¬x.at k:=fun k e e'=>by have:=(hy k e).1;have:=hxl k e';omega
   have hla:∀p∈l++[(a,y)],Whole H5 p.2 (intL p.1.params) t_3 1∧(∀k,p.2.at k→H0.next≤k∧¬y2.at k∧¬s'.at k):=fun p hp=>by
    rcases List.mem_append.1 hp with h|h
    ·exact⟨Whole.keep (ar3.p p h) k5 fun k e=>(ar3.a0 p h k e).2,fun k e=>⟨(ar3.a0 p h k e).1,fun e'=>by have:=hf5 k e';have:=hal p h k e;omega,sa1 p h k e⟩⟩
    ·have:p=(a,y):=by simpa using h
     subst this;exact⟨Whole.keep wy3 k5 hyx,fun k e=>⟨by have:=(hy k e).1;omega,fun e'=>by have:=hf5 k e';have:=hyl k e;omega,(hy k e).2⟩⟩
   obtain⟨y',s'',H',l',b1,b2,b3⟩:=ih m (i+1) (l:=l++[(a,y)]) (x:=y2) (H:=H5) (s:=s') (by omega) hdr (by omega) (by simp;omega) ⟨pr5,ok1,⟨by simpa[actsV]using w5,fun p hp=>(hla p hp).1,fun k e=>by have:=hf5 k e;omega,fun p hp k e=>⟨((hla p hp).2 k e).1,((hla p hp).2 k e).2.1⟩⟩,fun k e e'=>by have:=hf5 k e;have:=hs1l k e';omega,fun p hp k e=>((hla p hp).2 k e).2.2,ss1,f.rr,f.r0,f.p0,
    ⟨by have:=k03.1;omega,fun k hk hn=>(k5.2 k (by have:=k03.1;omega) (fun e=>by have:=f.ar.x0 k e;omega)).trans (k03.2 k hk hn)⟩⟩
   exact⟨y',s'',H',l',b1,b2,by rw[b3];simp⟩
structure PD(H:Heap)(pp dp:Nat)(s h:Sl)(c:PS)(w:W):Prop where
 pr:PR H pp dp s c
 ok:c.fine
 dr:DR H dp h w
 w3:w.length≤3
 ne:pp≠dp
 hp:¬h.at pp
 sd:¬s.at dp
 hs:∀k,h.at k→¬s.at k
 d3:3<dp
def heldW(w:W):W:=w.drop (cut w)
def feedL(w:W):List Int:=runes (w.take (cut w))
theorem heldW_len(w:W):(heldW w).length≤3:=by have:=cut_le w;unfold heldW;rw[List.length_drop];unfold cut at*;omega
theorem runes_len(l:W):(runes l).length≤l.length:=runesAt_len l l.length 0
theorem PFeed_s(d:Nat){H:Heap}(t:Tab H){pp dp:Nat}{s h x:Sl}{c:PS}{w l:W}(p:PD H pp dp s h c w)(hx:HV H x l)(hl:l.length≤1900000):∃y s' h' H' al,X (d+4) n_37 [P0 pp,x.v] H=some (y.v,H')∧PD H' pp dp s' h' (pFeed c (feedL (w++l))).1 (heldW (w++l))∧al.map Prod.fst=(pFeed c (feedL (w++l))).2∧AR H.next H' y al∧
 (∀k,y.at k→¬s'.at k∧¬h'.at k)∧(∀a∈al,∀k,a.2.at k→¬s'.at k∧¬h'.at k)∧(∀k,s'.at k→s.at k∨H.next≤k)∧(∀k,h'.at k→H.next≤k)∧Keep (fun k=>k=pp∨k=dp∨s.at k) H H':=by
 rw[vt_Parser_Feed_eq,p.pr.l0];simp only[optK_s,P0,asP_s];obtain⟨y1,h1,H1,e1,w1,dr1,a1,b1,k1⟩:=DFeed_s (d+1) t p.dr hx p.w3 hl;rw[show X (d+3) n_57 [.pointer (some ⟨dp,0,none⟩),x.v] H=some (y1.v,H1)from e1];simp only[callK_s,asSL_k];have hn1:y1.n=(feedL (w++l)).length:=by have:=(Whole.len w1).1;rw[runeV_len]at this;unfold feedL;omega
 have hrl:(feedL (w++l)).length≤2000000:=by have:=runes_len ((w++l).take (cut (w++l)));have h3:=p.w3;unfold feedL;rw[List.length_take,List.length_append]at this;omega
 have hk1:=k1.1;have hsl:∀k,s.at k→k<H.next:=fun k e=>Whole.lt p.pr.par e
 have pr1:PR H1 pp dp s c:=p.pr.keep k1 p.ne fun k e e'=>p.sd (by have e'':k=dp:=e';rw[←e''];exact e);have f1:FS H1 H1 pp dp s s y1 Sl.nil c (feedL (w++l)) []:=⟨pr1,p.ok,⟨.inl ⟨rfl,rfl⟩,by simp,fun k e=>absurd e Sl.at_nil,by simp⟩,fun k e=>absurd e Sl.at_nil,by simp,fun k e=>.inl e,w1,fun k e=>⟨fun e'=>by have:=(a1 k e).1;have:=p.pr.lt;omega,fun e'=>by have:=(a1 k e).1;have:=hsl k e';omega⟩,pr1.lt,Keep.refl _⟩;obtain⟨y,s',H',al,e2,f2,m2⟩:=PFeed_loop d hrl (feedL (w++l)) NN 0 (NN_big _ (by omega)) rfl (by omega) (by simp) f1;rw[hn1];rw[show(0:Int)=((0:Nat):Int)from rfl,e2];have hh1:∀k,h1.at k→k<H1.next:=fun k e=>dr1.2.2.1.lt e
 have hS:∀k,s'.at k→s.at k∨H1.next≤k:=f2.ss
 have dr2:DR H' dp h1 (heldW (w++l)):=dr1.keep f2.hk (fun e=>e.elim (fun e=>p.ne e.symm) p.sd) fun k e e'=>by have:=b1 k e;exact e'.elim (fun e'=>by have:=p.pr.lt;omega) (fun e'=>by have:=hsl k e';omega)
 have hd:=p.dr.2.1;refine⟨y,s',h1,H',al,rfl,⟨f2.pr,f2.ok,dr2,heldW_len _,p.ne,fun e=>by have:=b1 pp e;have:=p.pr.lt;omega,fun e=>(hS dp e).elim p.sd (fun e=>by omega),fun k e e'=>?_,p.d3⟩,by simpa using m2,⟨f2.ar.w,f2.ar.p,fun k e=>by have:=f2.ar.x0 k e;omega,fun a ha k e=>⟨by have:=(f2.ar.a0 a ha k e).1;omega,(f2.ar.a0 a ha k e).2⟩⟩,
  fun k e=>⟨f2.sx k e,fun e'=>by have:=f2.ar.x0 k e;have:=hh1 k e';omega⟩,fun a ha k e=>⟨f2.sa a ha k e,fun e'=>by have:=(f2.ar.a0 a ha k e).1;have:=hh1 k e';omega⟩,fun k e=>(hS k e).imp id fun e=>by omega,b1,?_⟩
 ·have:=b1 k e;have:=hh1 k e;exact(hS k e').elim (fun e'=>by have:=hsl k e';omega) (fun e'=>by omega)
 ·have:=(k1.mono (T:=fun k=>k=pp∨k=dp∨s.at k) fun k _ e=>.inr (.inl e)).trans (f2.hk.mono (T:=fun k=>k=pp∨k=dp∨s.at k) fun k _ e=>e.elim .inl fun e=>.inr (.inr e)) fun _ _ e=>e;exact this
def tabTo(tabs:List Bool)(last:Nat):Nat→Nat→Nat
 |0,x=>x
 |m+1,x=>if x<last∧tabs.getD x false=false then tabTo tabs last m (x+1)else x
def G.control(g:G)(r:Int):G:=if r=8 then g.move g.c.row ((g.c.col:Int)-1)else if r=9 then g.move g.c.row (tabTo g.tabs (g.c.cols-1) g.c.cols (g.c.col+1):Nat)else if r=10∨r=11∨r=12 then g.index else if r=13 then g.move g.c.row 0 else g
theorem WF.control{g:G}(w:WF g)(r:Int):WF (g.control r):=by
 unfold G.control;split; · exact w.move _ _
 split; · exact w.move _ _
 split; · exact w.index
 split; · exact w.move _ _
 exact w
theorem tab_s(d:Nat){H:Heap}{D:GD}{g:G}(h:Rep H D g)(w:WF g):∀(m n x:Nat),m<n→g.c.cols≤x+m→∃H',jp (d+1) n D.p (x:Int) H=some (.tuple #[],H')∧Rep H' D (g.move g.c.row (tabTo g.tabs (g.c.cols-1) m x:Nat))∧Stp H D H' D:=fun m=>by
 have c2:=w.c2;have c1:=w.c1;have tn:=w.tn;induction m with
 |zero=>intro n x hn hx;obtain⟨n,rfl⟩:∃n',n=n'+1:=⟨n-1,by omega⟩;rw[jp_s,h.l1];simp only[optK_s,asI_s];rw[w64 (by omega),if_neg (show¬decide ((x:Int)<(g.c.cols:Int)-1)=true from dneg (by omega)),jq_eq,if_neg ff,h.l3];simp only[optK_s,asI_s];obtain⟨H',e,h',s'⟩:=move_s d h w g.c.row x;rw[e];exact⟨H',rfl,h',s'⟩
 |succ m ih=>
  intro n x hn hx;obtain⟨n,rfl⟩:∃n',n=n'+1:=⟨n-1,by omega⟩;rw[jp_s,h.l1];simp only[optK_s,asI_s];rw[w64 (by omega)];unfold tabTo;by_cases hlt:x<g.c.cols-1
  ·rw[if_pos (show decide ((x:Int)<(g.c.cols:Int)-1)=true from decide_eq_true (by omega)),h.l22];simp only[optK_s,asSL_k];obtain⟨b,Z,vw,_⟩:=h.ta.vw (by rw[List.length_map];omega);have hnn:=h.ta.n;rw[List.length_map]at hnn;rw[vw.sa];simp only[optK_s];have hx2:x<g.tabs.length:=by omega
   have hld:=vw.ld (i:=x) (x:=.bool g.tabs[x]) (by simp[List.getElem?_eq_getElem hx2]);rw[if_pos (show(0:Int)≤(x:Int)∧(x:Int)<(D.tabs.n:Int)by omega),show ap ⟨b,([]:List Value).length,none⟩ (((x:Int).toNat)*1)=⟨b,([]:List Value).length+x,none⟩by simp[ap],hld];simp only[optK_s,asB_s];have hg:g.tabs.getD x false=g.tabs[x]:=by rw[List.getD_eq_getElem?_getD,List.getElem?_eq_getElem hx2];rfl
   rw[jq_eq,hg];by_cases ht:g.tabs[x]=true
   ·rw[if_neg (show¬(!g.tabs[x])=true by rw[ht];simp),if_neg (show¬(x<g.c.cols-1∧g.tabs[x]=false)from fun e=>by rw[ht]at e;simp at e),h.l3];simp only[optK_s,asI_s];obtain⟨H',e,h',s'⟩:=move_s d h w g.c.row x;rw[e];exact⟨H',rfl,h',s'⟩
   ·have ht':g.tabs[x]=false:=by simpa using ht
    rw[if_pos (show(!g.tabs[x])=true by rw[ht'];rfl),if_pos (show x<g.c.cols-1∧g.tabs[x]=false from⟨hlt,ht'⟩),wi (by omega)];exact ih n (x+1) (by omega) (by omega)
  ·rw[if_neg (show¬decide ((x:Int)<(g.c.cols:Int)-1)=true from dneg (by omega)),if_neg (fun e=>hlt e.1),jq_eq,if_neg ff,h.l3];simp only[optK_s,asI_s];obtain⟨H',e,h',s'⟩:=move_s d h w g.c.row x;rw[e];exact⟨H',rfl,h',s'⟩
theorem control_s(d:Nat){H:Heap}{D:GD}{g:G}(h:Rep H D g)(w:WF g)(r:Int):∃H' D',X (d+9) n_60 [P0 D.p,.int .i32 r] H=some (.tuple #[],H')∧Rep H' D' (g.control r)∧Stp H D H' D':=by
 have hr:=w.row;have hr2:=w.r2;have hc:=w.col;have hc2:=w.c2;rw[grid_Grid_control_eq];unfold G.control;by_cases c8:r=8
 ·rw[if_pos (show decide (r=8)=true from decide_eq_true c8),if_pos c8,h.l3,h.l4];simp only[optK_s,asI_s];rw[w64 (by omega)];obtain⟨H',e,h',s'⟩:=move_s (d+7) h w g.c.row ((g.c.col:Int)-1);rw[e];exact⟨H',D,rfl,h',s'⟩
 rw[if_neg (show¬decide (r=8)=true from dneg c8),if_neg c8];by_cases c9:r=9
 ·rw[if_pos (show decide (r=9)=true from decide_eq_true c9),if_pos c9,h.l4];simp only[optK_s,asI_s];rw[wi (by omega)];obtain⟨H',e,h',s'⟩:=tab_s (d+7) h w g.c.cols NN (g.c.col+1) (NN_big _ (by omega)) (by omega);exact⟨H',D,e,h',s'⟩
 rw[if_neg (show¬decide (r=9)=true from dneg c9),if_neg c9];have A:∀z:Bool,z=decide (r=10∨r=11∨r=12)→∃H' D',jr (d+8) D.p r z H=some (.tuple #[],H')∧Rep H' D' (if r=10∨r=11∨r=12 then g.index else if r=13 then g.move g.c.row 0 else g)∧Stp H D H' D':=fun z hz=>by
  rw[jr_eq];by_cases hA:r=10∨r=11∨r=12
  ·rw[if_pos (show z=true by rw[hz];exact decide_eq_true hA),if_pos hA];obtain⟨H',D',e,h',s'⟩:=index_s d h w;rw[e];exact⟨H',D',rfl,h',s'⟩
  ·rw[if_neg (show¬z=true by rw[hz];exact dneg hA),if_neg hA];by_cases c13:r=13
   ·rw[if_pos (show decide (r=13)=true from decide_eq_true c13),if_pos c13,h.l3];simp only[optK_s,asI_s];obtain⟨H',e,h',s'⟩:=move_s (d+7) h w g.c.row 0;rw[e];exact⟨H',D,rfl,h',s'⟩
   ·rw[if_neg (show¬decide (r=13)=true from dneg c13),if_neg c13];exact⟨H,D,rfl,h,Stp.refl _ _⟩
 by_cases c10:r=10
 ·rw[if_pos (show decide (r=10)=true from decide_eq_true c10)];exact A _ (decide_eq_decide.2 (by omega))
 rw[if_neg (show¬decide (r=10)=true from dneg c10)];by_cases c11:r=11
 ·rw[if_pos (show decide (r=11)=true from decide_eq_true c11)];exact A _ (decide_eq_decide.2 (by omega))
 rw[if_neg (show¬decide (r=11)=true from dneg c11)];exact A _ (decide_eq_decide.2 (by omega))
def Does(d:Nat)(F:G→Act→G)(a:Act):Prop:=∀{H:Heap} {D:GD} {g:G} {y:Sl},Rep H D g→WF g→Whole H y (intL a.params) t_3 1→(∀k,y.at k→¬D.foot k)→∃H' D',X d n_38 [P0 D.p,.agg ⟨actL a y⟩] H=some (.tuple #[],H')∧Rep H' D' (F g a)∧WF (F g a)∧Stp H D H' D'
theorem boxA(a:Act)(y:Sl)(H:Heap)(K:Value→Heap→Res):effK (.box t_110) [.agg ⟨actL a y⟩] H K=K (P0 H.next) (H.new (.cells (actL a y) t_110 false 0 false)):=rfl
theorem does_print(d:Nat){F:G→Act→G}{a:Act}(hk:a.kind=1)(hF:∀g,F g a=g.print a.rune):Does (d+10) F a:=by
 intro H D g y h w _ _;rw[grid_Grid_Do_eq,boxA];have k1:Keep0 H (H.new (.cells (actL a y) t_110 false 0 false)):=Keep.new _ _;have g1:(H.new (.cells (actL a y) t_110 false 0 false)).get H.next=some (.cells (actL a y) t_110 false 0 false):=by simp
 generalize H.new (.cells (actL a y) t_110 false 0 false)=H1 at*;simp only[P0,asP_s,optK_s];rw[show ap ⟨H.next,0,none⟩ 0=⟨H.next,0,none⟩from rfl,(ld1_s g1).trans (show(actL a y)[0]?=some (.int .i64 (a.kind:Int))from rfl)];simp only[optK_s,asI_s];rw[if_pos (show decide ((a.kind:Int)=1)=true from decide_eq_true (by omega)),show ap ⟨H.next,0,none⟩ 1=⟨H.next,1,none⟩from rfl,(ld1_s g1).trans (show(actL a y)[1]?=some (.int .i32 a.rune)from rfl)];simp only[optK_s,asI_s];obtain⟨H2,D2,e2,h2,s2⟩:=print_s d (h.new k1) w a.rune;rw[show X (d+9) n_59 [.pointer (some ⟨D.p,0,none⟩),.int .i32 a.rune] H1=_ from e2];refine⟨H2,D2,rfl,by rw[hF];exact h2,by rw[hF];exact w.print _,(Stp.new k1).trans s2⟩
theorem does_control(d:Nat){F:G→Act→G}{a:Act}(hk:a.kind=2)(hF:∀g,F g a=g.control a.rune):Does (d+10) F a:=by
 intro H D g y h w _ _;rw[grid_Grid_Do_eq,boxA];have k1:Keep0 H (H.new (.cells (actL a y) t_110 false 0 false)):=Keep.new _ _;have g1:(H.new (.cells (actL a y) t_110 false 0 false)).get H.next=some (.cells (actL a y) t_110 false 0 false):=by simp
 generalize H.new (.cells (actL a y) t_110 false 0 false)=H1 at*;simp only[P0,asP_s,optK_s];rw[show ap ⟨H.next,0,none⟩ 0=⟨H.next,0,none⟩from rfl,(ld1_s g1).trans (show(actL a y)[0]?=some (.int .i64 (a.kind:Int))from rfl)];simp only[optK_s,asI_s];rw[if_neg (show¬decide ((a.kind:Int)=1)=true from dneg (by omega)),if_pos (show decide ((a.kind:Int)=2)=true from decide_eq_true (by omega)),show ap ⟨H.next,0,none⟩ 1=⟨H.next,1,none⟩from rfl,(ld1_s g1).trans (show(actL a y)[1]?=some (.int .i32 a.rune)from rfl)];simp only[optK_s,asI_s];obtain⟨H2,D2,e2,h2,s2⟩:=control_s d (h.new k1) w a.rune;rw[show X (d+9) n_60 [.pointer (some ⟨D.p,0,none⟩),.int .i32 a.rune] H1=_ from e2];refine⟨H2,D2,rfl,by rw[hF];exact h2,by rw[hF];exact w.control _,(Stp.new k1).trans s2⟩
theorem Acts_s(d:Nat){F:G→Act→G}{x:Sl}{al:AL}{N:Nat}(hal:al.length≤2000000)(hdo:∀a∈al,Does d F a.1):∀(r:AL) (m i:Nat) {H:Heap} {D:GD} {g:G},r.length<m→al.drop i=r→i+r.length=al.length→Rep H D g→WF g→AR N H x al→(∀k,x.at k→¬D.foot k)→(∀a∈al,∀k,a.2.at k→¬D.foot k)→
  ∃H' D',jm d m D.p x (al.length:Int) (i:Int) H=some (.tuple #[],H')∧Rep H' D' ((r.map Prod.fst).foldl F g)∧WF ((r.map Prod.fst).foldl F g)∧Stp H D H' D':=fun r=>by
 induction r with
 |nil=>intro m i H D g hm _ hi h w _ _ _;obtain⟨m,rfl⟩:∃m',m=m'+1:=⟨m-1,by simp at hm;omega⟩;simp only[List.length_nil]at hi;rw[jm_s,if_neg (show¬decide ((i:Int)<(al.length:Int))=true from dneg (by omega))];exact⟨H,D,rfl,h,w,Stp.refl _ _⟩
 |cons a r ih=>
  intro m i H D g hm hd hi h w ar hx ha;simp only[List.length_cons]at hm hi;obtain⟨m,rfl⟩:∃m',m=m'+1:=⟨m-1,by omega⟩;have hc:al[i]?=some a:=by have:=congrArg (fun x=>x[0]?) hd;simpa using this
  have hdr:al.drop (i+1)=r:=by rw[←List.drop_drop,hd];rfl
  have ham:a∈al:=List.mem_of_getElem? hc;have hn:=ar.n;have hxne:x.a≠none:=by
   rcases ar.w with ⟨h1,_⟩|⟨b,q,h1,_⟩
   ·rw[h1]at hn;simp[]at hn;omega
   ·rw[h1];simp
  obtain⟨b,vw,hat⟩:=Vw.of ar.w hxne;rw[jm_s,if_pos (show decide ((i:Int)<(al.length:Int))=true from decide_eq_true (by omega)),vw.sa];simp only[optK_s];have hld:ldA H ⟨b,i*4,none⟩ 4=some (.agg ⟨actL a.1 a.2⟩):=by obtain⟨_,_,_,_,o,st,g0⟩:=vw;unfold ldA;rw[List.nil_append,List.append_nil]at g0;rw[ldN_s g0 (by rw[actsV_len];omega),show actsV al=al.flatMap (fun x=>actL x.1 x.2)from rfl,fm_at (fun x:Act×Sl=>actL x.1 x.2) 4 (fun _=>rfl) hc]
  rw[if_pos (show(0:Int)≤(i:Int)∧(i:Int)<(x.n:Int)by omega),show ap ⟨b,([]:List Value).length,none⟩ (((i:Int).toNat)*4)=⟨b,i*4,none⟩by simp[ap],hld];simp only[optK_s,asA_s,newK_s];have k2:Keep0 H (H.new (.cells [.int .i64 0,.int .i32 0,.bool false,.slice none 0 0] t_110 false 0 false)):=Keep.new _ _;have g2:(H.new (.cells [.int .i64 0,.int .i32 0,.bool false,.slice none 0 0] t_110 false 0 false)).get H.next=some (.cells zeroA t_110 false 0 false):=by simp;rfl
  generalize H.new (.cells [.int .i64 0,.int .i32 0,.bool false,.slice none 0 0] t_110 false 0 false)=H2 at*;rw[st_act _ _ g2 rfl];have k3:Keep0 H (H2.put H.next (.cells (actL a.1 a.2) t_110 false 0 false)):=k2.fresh (Keep.put (S:=fun k=>k=H.next) _ _ _ rfl) fun k e=>by have e':k=H.next:=e;omega
  have g3:(H2.put H.next (.cells (actL a.1 a.2) t_110 false 0 false)).get H.next=some (.cells (actL a.1 a.2) t_110 false 0 false):=by simp
  generalize H2.put H.next (.cells (actL a.1 a.2) t_110 false 0 false)=H3 at*
  rw[ld_act g3 rfl];simp only[optK_s,asA_s];have ar3:AR N H3 x al:=ar.keep k3 (fun _ _ e=>e) fun _ _ _ _ e=>e;obtain⟨H4,D4,e4,h4,w4,s4⟩:=hdo a ham (h.new k3) w (ar3.p a ham) (ha a ham);rw[e4];simp only[callK_s];rw[wi (by omega)];have hf4:∀k,D4.foot k→D.foot k∨H3.next≤k:=s4.ft
  have hxl:∀k,x.at k→k<H3.next:=fun k e=>Whole.lt ar3.w e
  have hal3:∀a∈al,∀k,a.2.at k→k<H3.next:=fun a ha k e=>Whole.lt (ar3.p a ha) e
  have ar4:AR N H4 x al:=ar3.keep s4.kp hx ha;obtain⟨H',D',e5,h5,w5,s5⟩:=ih m (i+1) (by omega) hdr (by omega) h4 w4 ar4 (fun k e e'=>(hf4 k e').elim (hx k e) (fun e'=>by have:=hxl k e;omega)) (fun a ha' k e e'=>(hf4 k e').elim (ha a ha' k e) (fun e'=>by have:=hal3 a ha' k e;omega));rw[s4.p]at e5;exact⟨H',D',e5,h5,w5,((Stp.new k3).trans s4).trans s5⟩
theorem PD.keep{S:Nat→Prop}{H H':Heap}{pp dp:Nat}{s h:Sl}{c:PS}{w:W}(p:PD H pp dp s h c w)(hk:Keep S H H')(h1:¬S pp)(h2:¬S dp)(h3:∀k,s.at k→¬S k)(h4:∀k,h.at k→¬S k):PD H' pp dp s h c w:=⟨p.pr.keep hk h1 h3,p.ok,p.dr.keep hk h2 h4,p.w3,p.ne,p.hp,p.sd,p.hs,p.d3⟩
structure GA where
 D:GD
 dp:Nat
 s:Sl
 h:Sl
def GA.foot(A:GA)(k:Nat):Prop:=A.D.foot k∨k=A.D.pp∨k=A.dp∨A.s.at k∨A.h.at k
structure GP where
 g:G
 c:PS
 w:W
structure Gr(H:Heap)(A:GA)(q:GP):Prop where
 rep:Rep H A.D q.g
 wf:WF q.g
 pd:PD H A.D.pp A.dp A.s A.h q.c q.w
 lo:∀k,A.foot k→3<k
 f1:¬A.D.foot A.D.pp
 f2:¬A.D.foot A.dp
 f3:∀k,A.s.at k→¬A.D.foot k
 f4:∀k,A.h.at k→¬A.D.foot k
theorem Gr.lt{H:Heap}{A:GA}{q:GP}(h:Gr H A q){k:Nat}(e:A.foot k):k<H.next:=by
 rcases e with e|e|e|e|e
 ·exact h.rep.ltF e
 ·rw[e];exact h.pd.pr.lt
 ·rw[e];exact h.pd.dr.2.1
 ·exact Whole.lt h.pd.pr.par e
 ·exact h.pd.dr.2.2.1.lt e
theorem Gr.keep{S:Nat→Prop}{H H':Heap}{A:GA}{q:GP}(h:Gr H A q)(hk:Keep S H H')(hs:∀k,A.foot k→¬S k):Gr H' A q:=⟨h.rep.keep hk fun k e=>hs k (.inl e),h.wf,h.pd.keep hk (hs _ (.inr (.inl rfl))) (hs _ (.inr (.inr (.inl rfl)))) (fun k e=>hs k (.inr (.inr (.inr (.inl e))))) (fun k e=>hs k (.inr (.inr (.inr (.inr e))))),h.lo,h.f1,h.f2,h.f3,h.f4⟩
structure GStp(H:Heap)(A:GA)(H':Heap)(A':GA):Prop where
 p:A'.D.p=A.D.p
 kp:Keep A.foot H H'
 ft:∀k,A'.foot k→A.foot k∨H.next≤k
theorem GStp.trans{H H' H'':Heap}{D D' D'':GA}(h:GStp H D H' D')(h':GStp H' D' H'' D''):GStp H D H'' D'':=⟨h'.p.trans h.p,h.kp.trans h'.kp fun k hk hf=>(h.ft k hf).elim id (fun e=>by omega),fun k hk=>by
 rcases h'.ft k hk with e|e
 ·exact h.ft k e
 ·have:=h.kp.1;exact .inr (by omega)⟩
def GP.acts(q:GP)(l:W):List Act:=(pFeed q.c (feedL (q.w++l))).2
def GP.write(F:G→Act→G)(q:GP)(l:W):GP:=⟨(q.acts l).foldl F q.g,(pFeed q.c (feedL (q.w++l))).1,heldW (q.w++l)⟩
theorem Write_s(d:Nat){F:G→Act→G}{H:Heap}(t:Tab H){A:GA}{q:GP}(h:Gr H A q){x:Sl}{l:W}(hx:HV H x l)(hl:l.length≤1900000)(hdo:∀a∈q.acts l,Does (d+4) F a):∃H' A',X (d+5) n_21 [P0 A.D.p,x.v] H=some (.tuple #[],H')∧Gr H' A' (q.write F l)∧GStp H A H' A':=by
 rw[grid_Grid_Write_eq,h.rep.l32];simp only[optK_s,P0,asP_s];obtain⟨y,s1,h1,H1,al,e1,p1,m1,a1,n1,n2,f1,f2,k1⟩:=PFeed_s d t h.pd hx hl;rw[show X (d+4) n_37 [.pointer (some ⟨A.D.pp,0,none⟩),x.v] H=some (y.v,H1)from e1];simp only[callK_s,asSL_k];have hlen:al.length≤2000000:=by
  have e:al.length=(q.acts l).length:=by unfold GP.acts;rw[←m1,List.length_map]
  have:=pFeed_len (c:=q.c) (feedL (q.w++l));have h2:=runes_len ((q.w++l).take (cut (q.w++l)));have h3:=h.pd.w3;unfold feedL at this;rw[List.length_take,List.length_append]at h2;rw[e];unfold GP.acts feedL;omega
 have hlt:∀k,A.D.foot k→k<H.next:=fun k e=>h.rep.ltF e
 have rep1:Rep H1 A.D q.g:=h.rep.keep k1 fun k e e'=>by
  rcases e' with e'|e'|e'
  ·exact h.f1 (e'▸e)
  ·exact h.f2 (e'▸e)
  ·exact h.f3 k e' e
 rw[show(y.n:Int)=(al.length:Int)by rw[a1.n]];obtain⟨H2,D2,e2,r2,w2,s2⟩:=Acts_s (d+4) (F:=F) hlen (fun a ha=>hdo _ (by unfold GP.acts;rw[←m1];exact List.mem_map_of_mem ha)) al NN 0 (NN_big _ (by omega)) rfl (by omega) rep1 h.wf a1 (fun k e e'=>by have:=a1.x0 k e;have:=hlt k e';omega) (fun a ha k e e'=>by have:=(a1.a0 a ha k e).1;have:=hlt k e';omega);rw[show(0:Int)=((0:Nat):Int)from rfl,e2];have ef:(al.map Prod.fst)=q.acts l:=m1;rw[ef]at r2 w2;have hk1:=k1.1;have g1:¬A.D.foot A.D.pp:=h.f1;have hs1:∀k,s1.at k→¬A.D.foot k:=fun k e e'=>(f1 k e).elim (fun e=>h.f3 k e e') (fun e=>by have:=hlt k e';omega);have hh1:∀k,h1.at k→¬A.D.foot k:=fun k e e'=>by have:=f2 k e;have:=hlt k e';omega
 have pd2:PD H2 A.D.pp A.dp s1 h1 (pFeed q.c (feedL (q.w++l))).1 (heldW (q.w++l)):=p1.keep s2.kp h.f1 h.f2 hs1 hh1;have ft:∀k,D2.foot k→A.D.foot k∨H1.next≤k:=s2.ft
 have hpp:=p1.pr.lt;have hdp:=p1.dr.2.1;have hsl:∀k,s1.at k→k<H1.next:=fun k e=>Whole.lt p1.pr.par e
 have hhl:∀k,h1.at k→k<H1.next:=fun k e=>p1.dr.2.2.1.lt e
 have foot2:∀k,(⟨D2,A.dp,s1,h1⟩:GA).foot k→A.foot k∨H.next≤k:=fun k e=>by
  rcases e with e|e|e|e|e
  ·exact(ft k e).imp .inl fun e=>by omega
  ·have e':k=D2.pp:=e;rw[s2.pp]at e';exact .inl (.inr (.inl e'))
  ·exact .inl (.inr (.inr (.inl e)))
  ·exact(f1 k e).imp (fun e=>.inr (.inr (.inr (.inl e)))) id
  ·exact .inr (f2 k e)
 have h3:=t.lt;refine⟨H2,⟨D2,A.dp,s1,h1⟩,rfl,⟨r2,w2,by rw[show(⟨D2,A.dp,s1,h1⟩:GA).D.pp=A.D.pp from s2.pp];exact pd2,fun k e=>(foot2 k e).elim (h.lo k) (fun e=>by omega),?_,?_,?_,?_⟩,⟨s2.p,?_,foot2⟩⟩
 ·show¬D2.foot D2.pp;rw[s2.pp];exact fun e=>(ft _ e).elim h.f1 (fun e=>by omega)
 ·show¬D2.foot A.dp;exact fun e=>(ft _ e).elim h.f2 (fun e=>by omega)
 ·exact fun k e e'=>(ft k e').elim (hs1 k e) (fun e'=>by have:=hsl k e;omega)
 ·exact fun k e e'=>(ft k e').elim (hh1 k e) (fun e'=>by have:=hhl k e;omega)
 ·exact(k1.mono (T:=A.foot) fun k _ e=>e.elim (fun e=>.inr (.inl e)) fun e=>e.elim (fun e=>.inr (.inr (.inl e))) fun e=>.inr (.inr (.inr (.inl e)))).trans s2.kp fun k _ e=>.inl e
end Go.Proofs.YtjjchnjcmnkpdaaDoor.dec
