/-
  The clean machine's pure instructions do what the model's operations do: numbers, strings, comparisons, conversions.
-/
import Derived.Test.YtjjchnjcmnkpdaaDoorCmA
import Derived.Laws.Entries
import Derived.Laws.Concat
import Derived.Laws.StructEq
import Derived.Laws.Slices
import Derived.Laws.Build
namespace Go.Cm
open Go
section
variable{P:Program}{μ:Mu}{w:World}
def binS(op:BinOp)(t:TypeId)(x y:Operand)(u v:Value):Sem Value:=do eqGuard op t x y u v;binOp op t u v
theorem run_intBits{op:BinOp}{k:IntKind}{a b:Int}(h:isBits op=true):(Op.intBits op k a b).run P w=.ok (.int k (bitsI op k a b)) w:=by cases op<;>first|rfl|cases h
theorem bin_arith{k:IntKind}{t:TypeId}{x y:Operand}{a b:Int}:(binS .add t x y (.int k a) (.int k b)).run P w=.ok (.int k (k.wrap (a+b))) w∧(binS .sub t x y (.int k a) (.int k b)).run P w=.ok (.int k (k.wrap (a-b))) w∧(binS .mul t x y (.int k a) (.int k b)).run P w=.ok (.int k (k.wrap (a*b))) w:=by
 refine⟨?_,?_,?_⟩<;>simp[binS,eqGuard,binOp,Op.intArith]
theorem eqGuard_int{op:BinOp}{k k':IntKind}{t:TypeId}{x y:Operand}{a b:Int}:eqGuard op t x y (.int k a) (.int k' b)=pure ():=by cases op<;>rfl
theorem beq_dec(a b:Int):(a==b)=decide (a=b):=by by_cases h:a=b<;>simp[h]
theorem cmp_ok{op:BinOp}{k:IntKind}{t:TypeId}{x y:Operand}{a b:Int}{K:Value→Res}{r:Value×Heap}(h:cmpI op a b (fun r=>K (.bool r))=some r):∃v,K v=some r∧(binS op t x y (.int k a) (.int k b)).run P w=.ok v w∧VR μ v v:=by
 cases op<;>simp only[cmpI]at h;case eql=>exact⟨_,h,by simp[binS,eqGuard_int,binOp,Op.intCmp,beq_dec],.bool _⟩
 case neq=>exact⟨_,h,by simp[binS,eqGuard_int,binOp,Op.intCmp,bne,beq_dec],.bool _⟩
 case lss=>exact⟨_,h,by simp[binS,eqGuard_int,binOp,Op.intCmp],.bool _⟩
 case leq=>exact⟨_,h,by simp[binS,eqGuard_int,binOp,Op.intCmp],.bool _⟩
 case gtr=>exact⟨_,h,by simp[binS,eqGuard_int,binOp,Op.intCmp],.bool _⟩
 case geq=>exact⟨_,h,by simp[binS,eqGuard_int,binOp,Op.intCmp],.bool _⟩
 all_goals cases h
theorem toList_eq(s:ByteArray):s.toList=lst s:=by rw[ByteArray.toList_eq];rfl
theorem slen_size(s:ByteArray):slen s=s.size:=by simp[slen,lst]
theorem sCat_eq(a b:ByteArray):sCat a b=a++b:=by apply ByteArray.ext;simp[sCat,S,lst,ByteArray.data_append]
theorem sLess_eq:∀(a b:List UInt8),sLess a b=Op.bytesLess a b
 |[],[]=>rfl
 |[],_::_=>rfl
 |_::_,[]=>rfl
 |a::x,b::y=>by
  simp only[sLess,Op.bytesLess,sLess_eq x y]
  congr 1
  congr 1
  rw[Bool.eq_iff_iff];simp[UInt8.toNat_inj]
theorem sadd_ok{t:TypeId}{x y:Operand}{a b:ByteArray}(h:slen a+slen b≤9223372036854775807):(binS .add t x y (.string a) (.string b)).run P w=.ok (.string (sCat a b)) w:=by
 have h':¬(((a.size+b.size:Nat):Int)>IntKind.i64.max):=by
  rw[slen_size,slen_size]at h;have:IntKind.i64.max=9223372036854775807:=by decide
  omega
 simp only[binS,eqGuard,binOp,Op.stringOp];simp only[if_neg h',sCat_eq];simp
theorem eqGuard_string{op:BinOp}{t:TypeId}{x y:Operand}{a b:ByteArray}:eqGuard op t x y (.string a) (.string b)=pure ():=by cases op<;>rfl
theorem scmp_ok{op:BinOp}{t:TypeId}{x y:Operand}{a b:ByteArray}{K:Value→Res}{r:Value×Heap}(h:scmpB op a b (fun r=>K (.bool r))=some r):∃v,K v=some r∧(binS op t x y (.string a) (.string b)).run P w=.ok v w∧VR μ v v:=by
 cases op<;>simp only[scmpB]at h;case eql=>exact⟨_,h,by simp[binS,eqGuard_string,binOp,Op.stringOp,sEq,toList_eq],.bool _⟩
 case neq=>exact⟨_,h,by simp[binS,eqGuard_string,binOp,Op.stringOp,sEq,toList_eq],.bool _⟩
 case lss=>exact⟨_,h,by simp[binS,eqGuard_string,binOp,Op.stringOp,sLess_eq,toList_eq],.bool _⟩
 case leq=>exact⟨_,h,by simp[binS,eqGuard_string,binOp,Op.stringOp,sEq,sLess_eq,toList_eq],.bool _⟩
 case gtr=>exact⟨_,h,by simp[binS,eqGuard_string,binOp,Op.stringOp,sEq,sLess_eq,toList_eq],.bool _⟩
 case geq=>exact⟨_,h,by simp[binS,eqGuard_string,binOp,Op.stringOp,sLess_eq,toList_eq],.bool _⟩
 all_goals cases h
theorem div_ok{k:IntKind}{t:TypeId}{x y:Operand}{a b:Int}(hb:b≠0):(binS .quo t x y (.int k a) (.int k b)).run P w=.ok (.int k (k.wrap (a.tdiv b))) w∧(binS .rem t x y (.int k a) (.int k b)).run P w=.ok (.int k (a.tmod b)) w:=by
 refine⟨?_,?_⟩<;>simp[binS,eqGuard,binOp,Op.intDiv,hb]
theorem shift_ok{k k':IntKind}{t:TypeId}{x y:Operand}{a b:Int}(hb:¬b<0):(binS .shl t x y (.int k a) (.int k' b)).run P w=.ok (.int k (k.wrap (a*2^(min b.toNat k.bits)))) w∧(binS .shr t x y (.int k a) (.int k' b)).run P w=.ok (.int k (a.fdiv (2^(min b.toNat k.bits)))) w:=by
 refine⟨?_,?_⟩<;>simp only[binS,eqGuard,binOp,Op.shift,if_neg hb]<;>rfl
theorem bits_ok{op:BinOp}{k:IntKind}{t:TypeId}{x y:Operand}{a b:Int}(h:isBits op=true):(binS op t x y (.int k a) (.int k b)).run P w=.ok (.int k (bitsI op k a b)) w:=by
 cases op<;>first|(cases h;done)|(simp only[binS,eqGuard_int,binOp];simp;exact run_intBits (P:=P) (w:=w) rfl)
theorem eqL_append:∀(ks:List Kd0) (a b c d:List Value) (ks2:List Kd0),a.length=ks.length→c.length=ks.length→eqL (ks++ks2) (a++b) (c++d)=match eqL ks a c with
  |some true=>eqL ks2 b d
  |some false=>some false
  |none=>none
 |[],[],b,[],d,_,_,_=>by simp[eqL]
 |k::ks,x::a,b,y::c,d,ks2,h,h'=>by
  simp only[List.cons_append,eqL];cases eqC k x y with
  |none=>rfl
  |some r=>cases r
           ·rfl
           ·exact eqL_append ks a b c d ks2 (by simpa using h) (by simpa using h')
 |[],_::_,_,_,_,_,h,_=>by simp at h
 |[],[],_,_::_,_,_,_,h=>by simp at h
 |_::_,[],_,_,_,_,h,_=>by simp at h
 |_::_,_::_,_,[],_,_,_,h=>by simp at h
theorem eqC_real{k:Kd0}{a b a' b':Value}(ha:VR μ a a')(hb:VR μ b b'){r:Bool}(h:eqC k a b=some r):eqC k a' b'=some r:=by cases ha<;>cases hb<;>first|exact h|(cases k<;>simp[eqC]at h)
theorem eqL_real:∀{ks:List Kd0} {a b a' b':List Value},VRs μ a a'→VRs μ b b'→∀{r:Bool},eqL ks a b=some r→eqL ks a' b'=some r
 |[],[],[],[],[],_,_,_,h=>h
 |k::ks,x::a,y::b,x'::a',y'::b',ha,hb,r,h=>by
  simp only[eqL]at h⊢;cases hc:eqC k x y with
  |none=>rw[hc]at h;cases h
  |some c=>
   rw[hc]at h;rw[eqC_real ha.1 hb.1 hc];cases c
   ·exact h
   ·exact eqL_real ha.2 hb.2 h
 |[],_::_,_,_::_,_,_,_,_,h=>by simp[eqL]at h
 |[],[],_::_,[],_::_,_,_,_,h=>by simp[eqL]at h
 |_::_,[],_,[],_,_,_,_,h=>by simp[eqL]at h
 |_::_,_::_,[],_::_,[],_,_,_,h=>by simp[eqL]at h
def valT(P:Program)(t:TypeId)(l:List Value):Value:=if isAggT P t then .agg l.toArray else l.headD undef
theorem run_isAgg{t:TypeId}(h:(P.underlying t).isSome=true):(isAgg t).run P w=.ok (isAggT P t) w:=by obtain⟨d,hd⟩:=Option.isSome_iff_exists.1 h;simp only[isAgg,Sem.run_bind,run_underlying hd,Result.andThen_ok,isAggT,hd];cases d<;>rfl
theorem run_sizeOf{t:TypeId}{i:TypeInfo}(h:P.info? t=some i):(sizeOf t).run P w=.ok i.size w:=by simp[sizeOf,typeInfo,h]
theorem run_sizeOf'{t:TypeId}(h:(P.info? t).isSome=true):(sizeOf t).run P w=.ok (P.cellsOf t) w:=by obtain⟨i,hi⟩:=Option.isSome_iff_exists.1 h;rw[run_sizeOf hi];simp[Program.cellsOf,hi]
theorem info_of_underlying{t:TypeId}{d:TypeDesc}(h:P.underlying t=some d):(P.info? t).isSome=true:=by unfold Program.underlying at h;split at h<;>simp_all
theorem run_part{t:TypeId}{cs:List Value}{off:Nat}(h:(P.underlying t).isSome=true)(hn:off+P.cellsOf t≤cs.length)(h1:isAggT P t=true∨P.cellsOf t=1):(part t cs.toArray off).run P w=.ok (valT P t ((cs.drop off).take (P.cellsOf t))) w:=by
 obtain⟨d,hd⟩:=Option.isSome_iff_exists.1 h;unfold part valT;simp only[Sem.run_bind,run_isAgg h,Result.andThen_ok];by_cases ha:isAggT P t=true
 ·simp only[ha,if_true,Sem.run_bind,run_sizeOf' (info_of_underlying hd),Result.andThen_ok,Sem.run_pure];simp
 ·simp only[ha];have h1:P.cellsOf t=1:=h1.resolve_left ha;have hlt:off<cs.length:=by omega
  simp only[h1,List.getElem?_toArray,List.getElem?_eq_getElem hlt];have:(List.drop off cs).take 1=[cs[off]]:=by rw[List.drop_eq_getElem_cons hlt];rfl
  simp[this]
end
section
variable{P:Program}{μ:Mu}{w:World}
theorem valT_agg{t:TypeId}{l:List Value}(h:isAggT P t=true):valT P t l=.agg l.toArray:=by simp[valT,h]
theorem valT_one{t:TypeId}{v:Value}(h:isAggT P t=false):valT P t [v]=v:=by simp[valT,h]
theorem run_eqArr(d:Nat)(elem:TypeId)(ks:List Kd0)(he:(P.underlying elem).isSome=true)(hc:P.cellsOf elem=ks.length)(h1:isAggT P elem=true∨P.cellsOf elem=1)(ih:∀(xs ys:List Value) (r:Bool) (w:World),xs.length=ks.length→ys.length=ks.length→eqL ks xs ys=some r→(Op.equalIn d elem (valT P elem xs) (valT P elem ys)).run P w=.ok r w)(XS YS:List Value):∀(n i:Nat) (r:Bool) (w:World),XS.length=(i+n)*ks.length→YS.length=(i+n)*ks.length→eqL (List.replicate n ks).flatten (XS.drop (i*ks.length)) (YS.drop (i*ks.length))=some r→((forIn (List.range' i n) (none,PUnit.unit) fun i (__s:Option Bool×PUnit)=>do
   let a←part elem XS.toArray (i*P.cellsOf elem)
   let b←part elem YS.toArray (i*P.cellsOf elem)
   let c←Op.equalIn d elem a b
   if(!c)=true then pure (ForInStep.done (some false,PUnit.unit))else pure (ForInStep.yield (none,PUnit.unit)):Sem (Option Bool×PUnit)).run P w)=.ok ((if r then none else some false),PUnit.unit) w
 |0,i,r,w,hx,hy,h=>by have h1:XS.drop (i*ks.length)=[]:=List.drop_eq_nil_of_le (by rw[hx];simp);have h2:YS.drop (i*ks.length)=[]:=List.drop_eq_nil_of_le (by rw[hy];simp);rw[h1,h2]at h;simp[eqL]at h;subst h;simp
 |n+1,i,r,w,hx,hy,h=>by
  have e:(i+(n+1))*ks.length=i*ks.length+(ks.length+n*ks.length):=by rw[Nat.add_mul,Nat.add_mul];omega
  have e2:(i+1+n)*ks.length=(i+(n+1))*ks.length:=by congr 1;omega
  rw[List.range'_succ,List.forIn_cons];have p1:=run_part (P:=P) (w:=w) (t:=elem) (cs:=XS) (off:=i*P.cellsOf elem) he (by rw[hc,hx,e];omega) h1;have p2:=run_part (P:=P) (w:=w) (t:=elem) (cs:=YS) (off:=i*P.cellsOf elem) he (by rw[hc,hy,e];omega) h1;have hX:(XS.drop (i*ks.length)).length=ks.length+n*ks.length:=by rw[List.length_drop,hx,e];omega
  have hY:(YS.drop (i*ks.length)).length=ks.length+n*ks.length:=by rw[List.length_drop,hy,e];omega
  simp only[Sem.run_bind,p1,p2,Result.andThen_ok];rw[hc];rw[←List.take_append_drop ks.length (XS.drop (i*ks.length)),←List.take_append_drop ks.length (YS.drop (i*ks.length)),List.replicate_succ,List.flatten_cons,eqL_append _ _ _ _ _ _ (by rw[List.length_take,hX];omega) (by rw[List.length_take,hY];omega)]at h;cases hq:eqL ks ((XS.drop (i*ks.length)).take ks.length) ((YS.drop (i*ks.length)).take ks.length)with
  |none=>rw[hq]at h;cases h
  |some c=>
   rw[hq]at h;rw[ih _ _ c w (by rw[List.length_take,hX];omega) (by rw[List.length_take,hY];omega) hq];cases c
   ·simp only[Option.some.injEq]at h;subst h;simp
   ·simp only[List.drop_drop]at h;have e3:i*ks.length+ks.length=(i+1)*ks.length:=by rw[Nat.add_mul];omega
    rw[e3]at h;have:=run_eqArr d elem ks he hc h1 ih XS YS n (i+1) r w (by rw[e2];exact hx) (by rw[e2];exact hy) h;rw[hc]at this;simpa using this
theorem flat_isSome:∀{d:Nat} {t:TypeId} {ks:List Kd0},flat P d t=some ks→(P.underlying t).isSome=true∧(isAggT P t=true∨ks.length=1)
 |0,_,_,h=>by simp[flat]at h
 |d+1,t,ks,h=>by unfold flat at h;split at h<;>rename_i e<;>(try cases h)<;>simp[isAggT,e]
theorem run_eqFields(d:Nat)(fl:TypeId→Option (List Kd0))(hfl:∀t ks,fl t=some ks→(P.underlying t).isSome=true∧(isAggT P t=true∨ks.length=1)∧
   ∀(xs ys:List Value) (r:Bool) (w:World),xs.length=ks.length→ys.length=ks.length→eqL ks xs ys=some r→(Op.equalIn d t (valT P t xs) (valT P t ys)).run P w=.ok r w)(XS YS:List Value):
  ∀(fs:List Field) (a:Nat) (ks:List Kd0) (r:Bool) (w:World),flat.flatF P fl fs a=some ks→XS.length=a+ks.length→YS.length=a+ks.length→eqL ks (XS.drop a) (YS.drop a)=some r→(Op.eqFields d XS.toArray YS.toArray fs).run P w=.ok r w
 |[],a,ks,r,w,hf,hx,hy,h=>by simp only[flat.flatF,Option.some.injEq]at hf;subst hf;rw[List.drop_eq_nil_of_le (by simpa using Nat.le_of_eq hx),List.drop_eq_nil_of_le (by simpa using Nat.le_of_eq hy)]at h;simp[eqL]at h;subst h;simp[Op.eqFields]
 |f::fs,a,ks,r,w,hf,hx,hy,h=>by
  unfold flat.flatF at hf;split at hf
  ·rename_i k1 hk1;split at hf
   ·rename_i hcond;obtain⟨ho,hc,hn⟩:=hcond;split at hf
    ·rename_i k2 hk2;simp only[Option.some.injEq]at hf;subst hf;obtain⟨h1,h2,h3⟩:=hfl _ _ hk1;rw[List.length_append]at hx hy;have hX:(XS.drop a).length=k1.length+k2.length:=by rw[List.length_drop];omega
     have hY:(YS.drop a).length=k1.length+k2.length:=by rw[List.length_drop];omega
     have p1:=run_part (P:=P) (w:=w) (t:=f.type) (cs:=XS) (off:=f.offset) h1 (by rw[hc,ho];omega) (by rw[hc];exact h2);have p2:=run_part (P:=P) (w:=w) (t:=f.type) (cs:=YS) (off:=f.offset) h1 (by rw[hc,ho];omega) (by rw[hc];exact h2);simp only[Op.eqFields,if_pos hn,Sem.run_bind,p1,p2,Result.andThen_ok];rw[hc,ho];rw[←List.take_append_drop k1.length (XS.drop a),←List.take_append_drop k1.length (YS.drop a),eqL_append _ _ _ _ _ _ (by rw[List.length_take,hX];omega) (by rw[List.length_take,hY];omega)]at h;cases hq:eqL k1 ((XS.drop a).take k1.length) ((YS.drop a).take k1.length)with
     |none=>rw[hq]at h;cases h
     |some c=>
      rw[hq]at h;rw[h3 _ _ c w (by rw[List.length_take,hX];omega) (by rw[List.length_take,hY];omega) hq];cases c
      ·simp only[Option.some.injEq]at h;subst h;simp
      ·simp only[List.drop_drop]at h;have:=run_eqFields d fl hfl XS YS fs (a+k1.length) k2 r w hk2 (by omega) (by omega) h;simpa using this
    ·cases hf
   ·cases hf
  ·cases hf
theorem eq_flat:∀(d:Nat) (t:TypeId) (ks:List Kd0),flat P d t=some ks→∀(dd:Nat),d≤dd→∀(xs ys:List Value) (r:Bool) (w:World),
  xs.length=ks.length→ys.length=ks.length→eqL ks xs ys=some r→(Op.equalIn dd t (valT P t xs) (valT P t ys)).run P w=.ok r w
 |0,_,_,h=>by simp[flat]at h
 |d+1,t,ks,hf=>by
  intro dd hd xs ys r w hx hy h;obtain⟨dd,rfl⟩:∃m,dd=m+1:=⟨dd-1,by omega⟩;have hS:=flat_isSome hf;unfold flat at hf;split at hf
  ·rename_i k e;simp only[Option.some.injEq]at hf;subst hf;obtain⟨x,rfl⟩:=List.length_eq_one_iff.1 hx;obtain⟨y,rfl⟩:=List.length_eq_one_iff.1 hy;rw[valT_one (by simp[isAggT,e]),valT_one (by simp[isAggT,e])];simp only[eqL]at h;cases x<;>cases y<;>simp only[eqC]at h<;>try (cases h;done)
   rename_i k1 a k2 b;by_cases hk:k1=k∧k2=k
   ·rw[if_pos hk]at h;obtain⟨rfl,rfl⟩:=hk;rw[run_equalIn_int w dd t _ _ a b e];cases hab:decide (a=b)<;>rw[hab]at h<;>simp_all
   ·rw[if_neg hk]at h;cases h
  ·rename_i e;simp only[Option.some.injEq]at hf;subst hf;obtain⟨x,rfl⟩:=List.length_eq_one_iff.1 hx;obtain⟨y,rfl⟩:=List.length_eq_one_iff.1 hy;rw[valT_one (by simp[isAggT,e]),valT_one (by simp[isAggT,e])];simp only[eqL]at h;cases x<;>cases y<;>simp only[eqC]at h<;>try (cases h;done)
   rename_i a b;rw[run_equalIn_bool' w dd t a b e];cases hab:(a==b)<;>rw[hab]at h<;>simp_all
  ·rename_i e;simp only[Option.some.injEq]at hf;subst hf;obtain⟨x,rfl⟩:=List.length_eq_one_iff.1 hx;obtain⟨y,rfl⟩:=List.length_eq_one_iff.1 hy;rw[valT_one (by simp[isAggT,e]),valT_one (by simp[isAggT,e])];simp only[eqL]at h;cases x<;>cases y<;>simp only[eqC]at h<;>try (cases h;done)
   rename_i a b;rw[run_equalIn_string w dd t a b e,toList_eq,toList_eq];unfold sEq at h;cases hab:(lst a==lst b)<;>rw[hab]at h<;>simp_all
  ·rename_i len elem e;split at hf
   ·rename_i k1 hk1;split at hf
    ·rename_i hc;simp only[Option.some.injEq]at hf;subst hf;obtain⟨h1,h2⟩:=flat_isSome hk1;have hA:isAggT P t=true:=by simp[isAggT,e]
     rw[valT_agg hA,valT_agg hA];have hlen:(List.replicate len k1).flatten.length=(0+len)*k1.length:=by simp
     simp only[Op.equalIn,Sem.run_bind,run_underlying e,Result.andThen_ok,run_sizeOf' (info_of_underlying (Option.eq_some_of_isSome h1))];rw[Std.Legacy.Range.forIn_eq_forIn_range'];have:=run_eqArr (P:=P) dd elem k1 h1 hc (by rw[hc];exact h2) (fun xs ys r w a b c=>eq_flat d elem k1 hk1 dd (by omega) xs ys r w a b c) xs ys len 0 r w (by rw[hx,hlen]) (by rw[hy,hlen]) (by simpa using h);simp only[Std.Legacy.Range.size,Nat.sub_zero,Nat.add_sub_cancel,Nat.div_one];rw[this];cases r<;>simp
    ·cases hf
   ·cases hf
  ·rename_i fs e;split at hf
   ·cases hf
   ·rename_i hst;have hA:isAggT P t=true:=by simp[isAggT,e]
    rw[valT_agg hA,valT_agg hA];rw[run_equalIn_struct w dd t xs.toArray ys.toArray (by simp[Program.fieldsOf,e]) (by simpa using hst)];have:P.fieldsOf t=fs:=by simp[Program.fieldsOf,e]
    rw[this];exact run_eqFields dd (flat P d) (fun t ks hk=>⟨(flat_isSome hk).1,(flat_isSome hk).2,fun xs ys r w a b c=>eq_flat d t ks hk dd (by omega) xs ys r w a b c⟩) xs ys fs.toList 0 ks r w hf (by simpa using hx) (by simpa using hy) (by simpa using h)
  ·cases hf
end
section
variable{P:Program}
theorem info_some{t:TypeId}(h:okElem P t=true):(P.info? t).isSome=true:=by obtain⟨d,hd⟩:=Option.isSome_iff_exists.1 h;exact info_of_underlying hd
theorem part_ok{μ:Mu}{w:World}{t:TypeId}{cs cs':List Value}{off:Nat}{v:Value}(hu:(P.underlying t).isSome=true)(hcs:VRs μ cs cs')(ho:∀v∈cs,one v=true)(h:partL cs off (P.cellsOf t) (isAggT P t)=some v):∃v',(part t cs'.toArray off).run P w=.ok v' w∧VR μ v v':=by
 obtain⟨d,hd⟩:=Option.isSome_iff_exists.1 hu;unfold partL at h;unfold part;simp only[Sem.run_bind,run_isAgg hu,Result.andThen_ok];by_cases ha:isAggT P t=true
 ·simp only[ha,if_true]at h⊢;split at h
  ·simp only[Option.some.injEq]at h;subst h;refine⟨_,?_,VR.agg_of ((hcs.drop off).take (P.cellsOf t)) (fun v hv=>ho v (List.mem_of_mem_drop (List.mem_of_mem_take hv)))⟩;simp[run_sizeOf' (info_of_underlying hd)]
  ·cases h
 ·simp only[ha]at h⊢;obtain⟨v',h1,h2⟩:=hcs.get off v (by simpa using h);refine⟨v',?_,h2⟩;simp[h1]
theorem bnds_ok{μ:Mu}{w:World}{α:Type}{K:Nat→Nat→Nat→Option α}{r:α}{len cc rc:Nat}{isS:Bool}{lo hi mx:Option Value}{vs:List Value}(hl:len≤cc)(hc:cc≤rc)(hv:VRs μ vs (lo.toList++hi.toList++mx.toList))(h:bnds len cc lo.isSome hi.isSome mx.isSome vs K=some r):∃l hh m,K l hh m=some r∧l≤hh∧hh≤m∧m≤cc∧(mx=none→m=cc)∧(Instr.sliceBounds isS len rc lo hi mx).run P w=.ok (l,hh,if mx.isSome then m else rc) w:=by
 cases lo<;>cases hi<;>cases mx<;>simp only[Option.isSome_none,Option.isSome_some,Option.toList_none,Option.toList_some,List.nil_append,List.append_nil,List.cons_append]at h hv
 ·match vs,hv with
  |[],_=>refine⟨0,len,cc,h,by omega,by omega,by omega,fun _=>rfl,?_⟩;simp[Instr.sliceBounds]
 ·simp[bnds]at h
 ·obtain⟨x,rfl,hx⟩:=hv.inv1;simp only[bnds]at h;obtain⟨k,n,rfl,hA⟩:=asN_some h;rw[hx.int_inv];split at hA
  ·rename_i hc1;refine⟨_,_,_,hA,by omega,by omega,by omega,fun _=>rfl,?_⟩;simp[Instr.sliceBounds,run_sliceBound_if,hc1.1,(by omega:n≤(rc:Int))]
  ·cases hA
 ·obtain⟨x,y,rfl,hx,hy⟩:=hv.inv2;simp only[bnds]at h;obtain⟨k,n,rfl,hA⟩:=asN_some h;obtain⟨k2,m,rfl,hB⟩:=asN_some hA;rw[hx.int_inv,hy.int_inv];split at hB
  ·rename_i hc1;obtain⟨h1,h2,h3⟩:=hc1;refine⟨_,_,_,hB,by omega,by omega,by omega,fun e=>(by cases e),?_⟩;simp[Instr.sliceBounds,run_sliceBound_if,h1,(by omega:0≤m),(by omega:m≤(rc:Int)),(by omega:n≤max m 0)]
  ·cases hB
 ·obtain⟨x,rfl,hx⟩:=hv.inv1;simp only[bnds]at h;obtain⟨k,n,rfl,hA⟩:=asN_some h;rw[hx.int_inv];split at hA
  ·rename_i hc1;refine⟨_,_,_,hA,by omega,by omega,by omega,fun _=>rfl,?_⟩;simp[Instr.sliceBounds,run_sliceBound_if,hc1.1,hc1.2]
  ·cases hA
 ·simp[bnds]at h
 ·obtain⟨x,y,rfl,hx,hy⟩:=hv.inv2;simp only[bnds]at h;obtain⟨k,n,rfl,hA⟩:=asN_some h;obtain⟨k2,m,rfl,hB⟩:=asN_some hA;rw[hx.int_inv,hy.int_inv];split at hB
  ·rename_i hc1;obtain⟨h1,h2,h3⟩:=hc1;refine⟨_,_,_,hB,by omega,by omega,by omega,fun _=>rfl,?_⟩;simp[Instr.sliceBounds,run_sliceBound_if,h1,(by omega:0≤m),(by omega:m≤(rc:Int)),(by omega:n≤max m 0)]
  ·cases hB
 ·match vs,hv with
  |[x,y,z],hv=>
   obtain⟨hx,hy,hz,_⟩:=hv;simp only[bnds]at h;obtain⟨k,n,rfl,hA⟩:=asN_some h;obtain⟨k2,m,rfl,hB⟩:=asN_some hA;obtain⟨k3,q,rfl,hC⟩:=asN_some hB;rw[hx.int_inv,hy.int_inv,hz.int_inv];split at hC
   ·rename_i hc1;obtain⟨h1,h2,h3,h4⟩:=hc1;refine⟨_,_,_,hC,by omega,by omega,by omega,fun e=>(by cases e),?_⟩;simp[Instr.sliceBounds,run_sliceBound_if,h1,(by omega:0≤m),(by omega:0≤q),(by omega:q≤(rc:Int)),(by omega:n≤max m 0),(by omega:m≤max q 0)]
   ·cases hC
theorem ap_eq{a:Addr}(h:a.spot=none)(n:Nat):a.add n=ap a n:=by
 cases a with
 |mk b o s=>
  simp only at h;subst h;unfold Addr.add ap;split
  ·rename_i h;subst h;rfl
  ·rfl
theorem AR.ap{μ:Mu}{a a':Addr}(h:AR μ a a')(n:Nat):AR μ (Cm.ap a n) (a'.add n):=by obtain⟨h1,h2,m,h3,h4,h5⟩:=h;rw[ap_eq h2];exact⟨rfl,rfl,m,h3,h4,by simp only[Cm.ap];omega⟩
theorem SR.elem{μ:Mu}{a a':Addr}{n c c':Nat}(h:SR μ a a' n c c')(hn:0<n)(k:Nat):AR μ (Cm.ap a k) (a'.add k):=by
 rcases h with ⟨h1,h2,m,h3,h4,h5⟩|⟨_,h,_⟩;rotate_left
 ·omega
 rw[ap_eq h2];refine⟨rfl,rfl,m,h3,h4,?_⟩;simp only[Cm.ap];omega
theorem SR.base{μ:Mu}{a a':Addr}{n c c':Nat}(h:SR μ a a' n c c')(hn:0<n):AR μ a a':=by
 rcases h with ⟨h1,h2,m,h3,h4,h5⟩|⟨_,h,_⟩
 ·exact⟨h1,h2,m,h3,h4,by omega⟩
 ·omega
theorem run_zeroValue{t:TypeId}{w:World}{z:List Value}(h:zeroL P t=some z):(zeroValue t).run P w=.ok (valT P t z) w∧z.all plain=true∧z.length=P.cellsOf t∧(isAggT P t=true∨z.length=1)∧(P.info? t).isSome=true:=by
 unfold zeroL at h;split at h
 ·rename_i i hi;split at h
  ·rename_i v hv;split at h
   ·rename_i hc;obtain⟨h1,h2,h3⟩:=hc;simp only[Option.some.injEq]at h;subst h;refine⟨?_,h1,by simp[Program.cellsOf,hi,h2],?_,by simp[hi]⟩
    ·simp only[zeroValue,typeInfo,Sem.run_bind,run_program,Result.andThen_ok,hi,Sem.run_pure,hv];cases v<;>simp_all [valT,cellsL,isAggV]
    ·cases v<;>simp_all [cellsL,isAggV]
   ·cases h
  ·cases h
 ·cases h
theorem cells_valT{t:TypeId}{z:List Value}(h:isAggT P t=true∨z.length=1)(ho:∀v∈z,one v=true):(valT P t z).cells=z.toArray:=by
 unfold valT;by_cases ha:isAggT P t=true
 ·simp[ha,Value.cells]
 ·simp only[ha];obtain⟨x,rfl⟩:=List.length_eq_one_iff.1 (h.resolve_left ha);have:=ho x (by simp);cases x<;>simp_all [Value.cells,one]
theorem cells_eq(v:Value):v.cells=(cellsL v).toArray:=by cases v<;>simp[Value.cells,cellsL]
theorem VR.cellsL{μ:Mu}{v v':Value}(h:VR μ v v'):VRs μ (Cm.cellsL v) (Cm.cellsL v'):=by
 by_cases ha:∃c,v=.agg c
 ·obtain⟨c,rfl⟩:=ha;obtain⟨c',rfl,h1,_⟩:=h.agg_inv;exact h1
 ·have e1:Cm.cellsL v=[v]:=by cases v<;>first|rfl|exact absurd ⟨_,rfl⟩ ha
  have e2:Cm.cellsL v'=[v']:=by cases h<;>first|rfl|exact absurd ⟨_,rfl⟩ ha
  rw[e1,e2];exact⟨h,trivial⟩
theorem splice_cons(cs:List Value)(k:Nat)(v:Value)(vs:List Value)(h:k<cs.length):splice (cs.set k v) (k+1) vs=splice cs k (v::vs):=by
 have e1:(cs.set k v).take (k+1)=cs.take k++[v]:=by
  rw[List.take_succ_eq_append_getElem (by simpa using h)]
  congr 1
  ·rw[List.take_set_of_le (Nat.le_refl k)]
  ·simp
 have e2:(cs.set k v).drop (k+1+vs.length)=cs.drop (k+1+vs.length):=by rw[List.drop_set_of_lt (by omega)]
 unfold splice;rw[e1,e2,List.length_cons];have:k+1+vs.length=k+(vs.length+1):=by omega
 rw[this];simp
theorem foldl_set(vs:List Value):∀(cs:Array Value) (off j:Nat),off+j+vs.length≤cs.size→
  (vs.zipIdx j).foldl (fun cs (p:Value×Nat)=>cs.setIfInBounds (off+p.2) p.1) cs=(splice cs.toList (off+j) vs).toArray:=by
 induction vs with
 |nil=>intro cs off j _;simp[splice]
 |cons v vs ih=>
  intro cs off j h;simp only[List.length_cons]at h;rw[List.zipIdx_cons,List.foldl_cons,ih _ _ _ (by simp;omega)]
  congr 1
  rw[Array.toList_setIfInBounds];exact splice_cons _ _ _ _ (by simp;omega)
theorem VRs.splice{μ:Mu}{a b c d:List Value}(h:VRs μ a b)(h':VRs μ c d)(off:Nat):VRs μ (Cm.splice a off c) (Cm.splice b off d):=by unfold Cm.splice;rw[h'.length];exact((h.take off).append h').append (h.drop _)
theorem splice_length{c vs:List Value}{off:Nat}(h:off+vs.length≤c.length):(splice c off vs).length=c.length:=by unfold splice;simp;omega
theorem splice_get{x y:List Value}{off k:Nat}(hxy:off+y.length≤x.length):(splice x off y)[k]?=if k<off then x[k]? else if k<off+y.length then y[k-off]? else x[k]?:=by
 unfold splice;have l1:(x.take off).length=off:=by simp;omega
 by_cases hk:k<off
 ·rw[if_pos hk,List.append_assoc,List.getElem?_append_left (by omega),List.getElem?_take_of_lt hk]
 ·rw[if_neg hk,List.append_assoc,List.getElem?_append_right (by omega),l1];by_cases hk2:k<off+y.length
  ·rw[if_pos hk2,List.getElem?_append_left (by omega)]
  ·rw[if_neg hk2,List.getElem?_append_right (by omega),List.getElem?_drop]
   congr 1
   omega
theorem splice_mem{c vs:List Value}{off:Nat}{v:Value}(h:v∈splice c off vs):v∈c∨v∈vs:=by
 unfold splice at h;simp only[List.mem_append]at h;rcases h with(h|h)|h
 ·exact .inl (List.mem_of_mem_take h)
 ·exact .inr h
 ·exact .inl (List.mem_of_mem_drop h)
theorem fill_ok{μ:Mu}{place:Nat→Option (Nat×Nat)}:∀{ps:List (Nat×Nat)} {is:List Nat} {vs vs':List Value} {cs cs' r:List Value},VRs μ vs vs'→VRs μ cs cs'→(∀v∈cs,one v=true)→
  is.length=ps.length→(∀(k i:Nat),is[k]?=some i→place i=ps[k]?)→fillL ps vs cs=some r→
  ∃r',Instr.fill place cs'.toArray (is.zip vs')=some r'.toArray∧VRs μ r r'∧(∀v∈r,one v=true)∧r.length=cs.length
 |[],[],[],[],cs,cs',r,_,hc,ho,_,_,h=>by simp only[fillL,Option.some.injEq]at h;subst h;exact⟨cs',by simp[Instr.fill],hc,ho,rfl⟩
 |(off,size)::ps,i::is,v::vs,v'::vs',cs,cs',r,hv,hc,ho,hl,hp,h=>by
  simp only[fillL]at h;split at h
  ·rename_i hh;obtain⟨h1,h2,h3⟩:=hh;have hcl:=hv.1.cellsL;have hlen:(cellsL v').length=size:=by rw[←hcl.length];exact h1
   have hp0:place i=some (off,size):=by simpa using hp 0 i (by simp)
   obtain⟨r',e1,e2,e3,e4⟩:=fill_ok (place:=place) hv.2 (hc.splice hcl off) (fun x hx=>by
    rcases splice_mem hx with hx|hx
    ·exact ho x hx
    ·exact List.all_eq_true.1 h3 x hx) (by simpa using hl) (fun k j hk=>by simpa using hp (k+1) j (by simpa using hk)) h
   refine⟨r',?_,e2,e3,by rw[e4,splice_length (by rw[h1];exact h2)]⟩;simp only[List.zip_cons_cons,Instr.fill,hp0,cells_eq];have hcs:cs'.length=cs.length:=hc.length.symm;have c1:((cellsL v').toArray.size≠size||off+(cellsL v').toArray.size>cs'.toArray.size)=false:=by simp[hlen];omega
   rw[if_neg (by rw[c1];simp)];have:=foldl_set (cellsL v') cs'.toArray off 0 (by simp[hlen];omega);rw[←e1]
   congr 1
   simpa using this
  ·cases h
 |[],_::_,_,_,_,_,_,_,_,_,hl,_,_=>by simp at hl
 |_::_,[],_,_,_,_,_,_,_,_,hl,_,_=>by simp at hl
 |[],[],_::_,_,_,_,_,_,_,_,_,_,h=>by simp[fillL]at h
 |[],[],[],_::_,_,_,_,hv,_,_,_,_,_=>hv.elim
 |_::_,_::_,[],_,_,_,_,_,_,_,_,_,h=>by simp[fillL]at h
 |_::_,_::_,_::_,[],_,_,_,hv,_,_,_,_,_=>hv.elim
end
section
variable{P:Program}
def PO(P:Program)(μ:Mu)(w:World)(K:Value→Res)(r:Value×Heap)(s:Sem Value):Prop:=∃v v',K v=some r∧s.run P w=.ok v' w∧VR μ v v'
theorem run_v{s:Sem Value}{v:Value}{w w':World}(h:s.run P w=.ok v w'):(do pure (Next.value (←s)):Sem Next).run P w=.ok (.value v) w':=by simp[h]
theorem PO.to{μ:Mu}{w:World}{K:Value→Res}{r:Value×Heap}{s:Sem Value}(h:PO P μ w K r s){x:Sem Next}(hx:x=(do pure (Next.value (←s)):Sem Next)):∃v v',K v=some r∧x.run P w=.ok (.value v') w∧VR μ v v':=by
 obtain⟨v,v',h1,h2,h3⟩:=h;exact⟨v,v',h1,by rw[hx];exact run_v h2,h3⟩
theorem nk_inv{k:NK}{x:Value}{b:Bool}{x':Value}{μ:Mu}(h:isNil k x=some b)(hv:VR μ x x'):isNil k x'=some b:=by cases hv<;>cases k<;>simp_all [isNil]
theorem nil_eq(dd:Nat){w:World}{k:NK}{d:TypeDesc}{t:TypeId}(hd:P.underlying t=some d)(hk:nkOf d=some k){x z:Value}{b:Bool}(hx:isNil k x=some b)(hz:isNil k z=some true)(hz':z=.pointer none∨z=.slice none 0 0∨z=.map none∨z=.nilFunc∨z=.nilIface):(Op.equalIn (dd+1) t x z).run P w=.ok b w∧(Op.equalIn (dd+1) t z x).run P w=.ok b w:=by
 unfold Op.equalIn;simp only[Sem.run_bind,run_underlying hd,Result.andThen_ok];rcases hz' with rfl|rfl|rfl|rfl|rfl<;>cases k<;>simp only[isNil,reduceCtorEq]at hz<;>cases d<;>simp only[nkOf,reduceCtorEq,Option.some.injEq]at hk<;>(cases x<;>simp only[isNil,reduceCtorEq,Option.some.injEq]at hx<;>subst hx)
 ·rename_i a;cases a<;>exact⟨rfl,rfl⟩
 ·rename_i a n c;cases a<;>exact⟨rfl,rfl⟩
 ·rename_i a;cases a<;>exact⟨rfl,rfl⟩
 all_goals exact⟨rfl,rfl⟩
theorem isNilC_inv{k:NK}{y:Operand}(h:isNilC k y=true):∃z,y=.const z∧isNil k z=some true∧(z=.pointer none∨z=.slice none 0 0∨z=.map none∨z=.nilFunc∨z=.nilIface):=by
 unfold isNilC at h;split at h
 ·exact⟨_,rfl,rfl,.inl rfl⟩
 ·exact⟨_,rfl,rfl,.inr (.inl rfl)⟩
 ·exact⟨_,rfl,rfl,.inr (.inr (.inl rfl))⟩
 ·exact⟨_,rfl,rfl,.inr (.inr (.inr (.inl rfl)))⟩
 ·exact⟨_,rfl,rfl,.inr (.inr (.inr (.inr rfl)))⟩
 ·cases h
theorem eqOp_run{w:World}{op:BinOp}{t:TypeId}{x y:Operand}{u v:Value}{b:Bool}(hop:op=.eql∨op=.neq)(hg:(eqGuard op t x y u v).run P w=.ok () w)(hi:∀k a k' b,¬(u=.int k a∧v=.int k' b))(hs:∀a b,¬(u=.string a∧v=.string b))(hf:∀k a k' b,¬(u=.float k a∧v=.float k' b))(hc:∀k a b k' c d,¬(u=.complex k a b∧v=.complex k' c d))(he:(Op.equalIn (9999+1) t u v).run P w=.ok b w):(binS op t x y u v).run P w=.ok (.bool (if(op== .neq)then !b else b)) w:=by
 have e1:binOp .eql t u v=(do pure (.bool (←Op.equal t u v))):=by unfold binOp;split<;>first|rfl|(rename_i h1 h2;exfalso;first|exact hi _ _ _ _ ⟨rfl,rfl⟩|exact hs _ _ ⟨rfl,rfl⟩|exact hf _ _ _ _ ⟨rfl,rfl⟩|exact hc _ _ _ _ _ _ ⟨rfl,rfl⟩|(cases h1;done))|simp_all
 have e2:binOp .neq t u v=(do pure (.bool (!(←Op.equal t u v)))):=by unfold binOp;split<;>first|rfl|(rename_i h1 h2;exfalso;first|exact hi _ _ _ _ ⟨rfl,rfl⟩|exact hs _ _ ⟨rfl,rfl⟩|exact hf _ _ _ _ ⟨rfl,rfl⟩|exact hc _ _ _ _ _ _ ⟨rfl,rfl⟩|(cases h1;done))|simp_all
 rcases hop with rfl|rfl
 ·simp only[binS,Sem.run_bind,hg,Result.andThen_ok,e1,Op.equal,Op.maxDepth];simp only[he,Result.andThen_ok,Sem.run_pure];rfl
 ·simp only[binS,Sem.run_bind,hg,Result.andThen_ok,e2,Op.equal,Op.maxDepth];simp only[he,Result.andThen_ok,Sem.run_pure];rfl
end
section
variable{P:Program}
theorem guard_at{w:World}{op:BinOp}{t:TypeId}{x y:Operand}{u v:Value}(hu:∀c,u≠ .agg c)(hn:u≠ .nilIface∨v≠ .nilIface∨(∃z,x=.const z)∨(∃z,y=.const z)):(eqGuard op t x y u v).run P w=.ok () w:=by
 unfold eqGuard;cases op;case eql|neq=>
  simp only[Bool.not_true,Bool.false_eq_true,if_false];split
  ·rcases hn with hn|hn|⟨z,rfl⟩|⟨z,rfl⟩
   ·exact absurd rfl hn
   ·exact absurd rfl hn
   ·simp
   ·simp
  ·exact absurd rfl (hu _)
  ·rfl
 all_goals rfl
theorem bin_int{op:BinOp}{t:TypeId}{x y:Operand}{k:IntKind}{u v u' v':Value}{μ:Mu}{w:World}{K:Value→Res}{r:Value×Heap}(hu:VR μ u u')(hu2:VR μ v v'):(pureK (.arith .add k) [u,v] K=some r→PO P μ w K r (binS .add t x y u' v'))∧(pureK (.arith .sub k) [u,v] K=some r→PO P μ w K r (binS .sub t x y u' v'))∧(pureK (.arith .mul k) [u,v] K=some r→PO P μ w K r (binS .mul t x y u' v'))∧(pureK (.div .quo k) [u,v] K=some r→PO P μ w K r (binS .quo t x y u' v'))∧(pureK (.div .rem k) [u,v] K=some r→PO P μ w K r (binS .rem t x y u' v'))∧(pureK (.shift .shl k) [u,v] K=some r→PO P μ w K r (binS .shl t x y u' v'))∧(pureK (.shift .shr k) [u,v] K=some r→PO P μ w K r (binS .shr t x y u' v'))∧(pureK (.bits op k) [u,v] K=some r→PO P μ w K r (binS op t x y u' v'))∧(pureK (.cmp op k) [u,v] K=some r→PO P μ w K r (binS op t x y u' v')):=by
 have two:∀{G:Int→Int→Res} {Q:Prop},(∀a b,u'=.int k a→v'=.int k b→G a b=some r→Q)→(asI k u fun a=>asI k v fun b=>G a b)=some r→Q:=by intro G Q hQ h;obtain⟨a,rfl,h1⟩:=asI_some h;obtain⟨b,rfl,h2⟩:=asI_some h1;exact hQ a b hu.int_inv hu2.int_inv h2
 have two':∀{G:Int→Int→Res} {Q:Prop},(∀a k' b,u'=.int k a→v'=.int k' b→G a b=some r→Q)→(asI k u fun a=>asN v fun b=>G a b)=some r→Q:=by intro G Q hQ h;obtain⟨a,rfl,h1⟩:=asI_some h;obtain⟨k',b,rfl,h2⟩:=asN_some h1;exact hQ a k' b hu.int_inv hu2.int_inv h2
 refine⟨fun h=>?_,fun h=>?_,fun h=>?_,fun h=>?_,fun h=>?_,fun h=>?_,fun h=>?_,fun h=>?_,fun h=>?_⟩
 ·exact two (fun a b e1 e2 h2=>by rw[e1,e2];exact⟨_,_,h2,bin_arith.1,.int _ _⟩) h
 ·exact two (fun a b e1 e2 h2=>by rw[e1,e2];exact⟨_,_,h2,bin_arith.2.1,.int _ _⟩) h
 ·exact two (fun a b e1 e2 h2=>by rw[e1,e2];exact⟨_,_,h2,bin_arith.2.2,.int _ _⟩) h
 ·refine two (fun a b e1 e2 h2=>?_) h;rw[e1,e2];split at h2
  ·cases h2
  ·rename_i hb;exact⟨_,_,h2,(div_ok hb).1,.int _ _⟩
 ·refine two (fun a b e1 e2 h2=>?_) h;rw[e1,e2];split at h2
  ·cases h2
  ·rename_i hb;exact⟨_,_,h2,(div_ok hb).2,.int _ _⟩
 ·refine two' (fun a k' b e1 e2 h2=>?_) h;rw[e1,e2];split at h2
  ·cases h2
  ·rename_i hb;exact⟨_,_,h2,(shift_ok hb).1,.int _ _⟩
 ·refine two' (fun a k' b e1 e2 h2=>?_) h;rw[e1,e2];split at h2
  ·cases h2
  ·rename_i hb;exact⟨_,_,h2,(shift_ok hb).2,.int _ _⟩
 ·refine two (fun a b e1 e2 h2=>?_) h;rw[e1,e2];obtain⟨h3,h4⟩:=chk_some h2;exact⟨_,_,h4,bits_ok h3,.int _ _⟩
 ·refine two (fun a b e1 e2 h2=>?_) h;rw[e1,e2];obtain⟨v,h3,h4,h5⟩:=cmp_ok (P:=P) (μ:=μ) (w:=w) (k:=k) (t:=t) (x:=x) (y:=y) h2;exact⟨v,v,h3,h4,h5⟩
theorem bin_str{op:BinOp}{t:TypeId}{x y:Operand}{u v u' v':Value}{μ:Mu}{w:World}{K:Value→Res}{r:Value×Heap}(hu:VR μ u u')(hu2:VR μ v v'):(pureK .sadd [u,v] K=some r→PO P μ w K r (binS .add t x y u' v'))∧(pureK (.scmp op) [u,v] K=some r→PO P μ w K r (binS op t x y u' v')):=by
 have two:∀{G:ByteArray→ByteArray→Res} {Q:Prop},(∀a b,u'=.string a→v'=.string b→G a b=some r→Q)→(asS u fun a=>asS v fun b=>G a b)=some r→Q:=by intro G Q hQ h;obtain⟨a,rfl,h1⟩:=asS_some h;obtain⟨b,rfl,h2⟩:=asS_some h1;exact hQ a b hu.string_inv hu2.string_inv h2
 refine⟨fun h=>?_,fun h=>?_⟩
 ·refine two (fun a b e1 e2 h2=>?_) h;rw[e1,e2];split at h2
  ·rename_i hb;exact⟨_,_,h2,sadd_ok hb,.string _⟩
  ·cases h2
 ·refine two (fun a b e1 e2 h2=>?_) h;rw[e1,e2];obtain⟨v,h3,h4,h5⟩:=scmp_ok (P:=P) (μ:=μ) (w:=w) (t:=t) (x:=x) (y:=y) h2;exact⟨v,v,h3,h4,h5⟩
theorem bin_ok{op:BinOp}{t:TypeId}{x y:Operand}{p:PI}{xs:List Operand}(hc:cBin P op t x y=some (.pure p,xs)){μ:Mu}{ρ:Operand→Value}{vs:List Value}{w:World}{K:Value→Res}{r:Value×Heap}(hρ:∀v,ρ (.const v)=v)(hv:VRs μ vs (xs.map ρ))(h:pureK p vs K=some r):PO P μ w K r (binS op t x y (ρ x) (ρ y)):=by
 unfold cBin at hc;split at hc
 ·
  rename_i k e;split at hc<;>simp only[Option.some.injEq,Prod.mk.injEq,CIns.pure.injEq]at hc<;>obtain⟨rfl,rfl⟩:=hc<;>obtain⟨u,v,rfl,hu,hu2⟩:=VRs.inv2 hv
  ·exact(bin_int (op:=.add) hu hu2).1 h
  ·exact(bin_int (op:=.add) hu hu2).2.1 h
  ·exact(bin_int (op:=.add) hu hu2).2.2.1 h
  ·exact(bin_int (op:=.add) hu hu2).2.2.2.1 h
  ·exact(bin_int (op:=.add) hu hu2).2.2.2.2.1 h
  ·exact(bin_int (op:=.and) hu hu2).2.2.2.2.2.2.2.1 h
  ·exact(bin_int (op:=.or) hu hu2).2.2.2.2.2.2.2.1 h
  ·exact(bin_int (op:=.xor) hu hu2).2.2.2.2.2.2.2.1 h
  ·exact(bin_int (op:=.andNot) hu hu2).2.2.2.2.2.2.2.1 h
  ·exact(bin_int (op:=.add) hu hu2).2.2.2.2.2.1 h
  ·exact(bin_int (op:=.add) hu hu2).2.2.2.2.2.2.1 h
  ·exact(bin_int hu hu2).2.2.2.2.2.2.2.2 h
 ·
  rename_i e;split at hc<;>simp only[Option.some.injEq,Prod.mk.injEq,CIns.pure.injEq,reduceCtorEq]at hc<;>obtain⟨rfl,rfl⟩:=hc<;>obtain⟨u,v,rfl,hu,hu2⟩:=VRs.inv2 hv
  ·exact(bin_str (op:=.add) hu hu2).1 h
  all_goals exact(bin_str hu hu2).2 h
 ·rename_i d hnI hnS e;have hmain:(op=.eql∨op=.neq)→cEq P op t d x y=some (.pure p,xs)→PO P μ w K r (binS op t x y (ρ x) (ρ y)):=by
   intro hop hc;unfold cEq at hc;split at hc
   ·rename_i k hk;split at hc
    ·rename_i hy;simp only[Option.some.injEq,Prod.mk.injEq,CIns.pure.injEq]at hc;obtain⟨rfl,rfl⟩:=hc;obtain⟨u,rfl,hu⟩:=VRs.inv1 hv;obtain⟨z,rfl,hz,hz'⟩:=isNilC_inv hy;simp only[pureK]at h;obtain⟨b,hb,h1⟩:=optK_some h;have hb':=nk_inv hb hu;rw[hρ];refine⟨_,_,h1,eqOp_run hop (guard_at ?_ (.inr (.inr (.inr ⟨_,rfl⟩)))) ?_ ?_ ?_ ?_ (nil_eq 9999 e hk hb' hz hz').1,.bool _⟩
     ·intro c hc;rw[hc]at hb';cases k<;>simp[isNil]at hb'
     ·rintro k1 a k2 b ⟨h1,h2⟩;rw[h1]at hb';cases k<;>simp[isNil]at hb'
     ·rintro a b ⟨h1,h2⟩;rw[h1]at hb';cases k<;>simp[isNil]at hb'
     ·rintro k1 a k2 b ⟨h1,h2⟩;rw[h1]at hb';cases k<;>simp[isNil]at hb'
     ·rintro k1 a1 a2 k2 b1 b2 ⟨h1,h2⟩;rw[h1]at hb';cases k<;>simp[isNil]at hb'
    ·split at hc
     ·rename_i hx;simp only[Option.some.injEq,Prod.mk.injEq,CIns.pure.injEq]at hc;obtain⟨rfl,rfl⟩:=hc;obtain⟨u,rfl,hu⟩:=VRs.inv1 hv;obtain⟨z,rfl,hz,hz'⟩:=isNilC_inv hx;simp only[pureK]at h;obtain⟨b,hb,h1⟩:=optK_some h;have hb':=nk_inv hb hu;rw[hρ];refine⟨_,_,h1,eqOp_run hop (guard_at ?_ (.inr (.inr (.inl ⟨_,rfl⟩)))) ?_ ?_ ?_ ?_ (nil_eq 9999 e hk hb' hz hz').2,.bool _⟩
      ·intro c hc;rw[hc]at hz;cases k<;>simp[isNil]at hz
      ·rintro k1 a k2 b ⟨h1,h2⟩;rw[h1]at hz;cases k<;>simp[isNil]at hz
      ·rintro a b ⟨h1,h2⟩;rw[h1]at hz;cases k<;>simp[isNil]at hz
      ·rintro k1 a k2 b ⟨h1,h2⟩;rw[h1]at hz;cases k<;>simp[isNil]at hz
      ·rintro k1 a1 a2 k2 b1 b2 ⟨h1,h2⟩;rw[h1]at hz;cases k<;>simp[isNil]at hz
     ·split at hc
      ·split at hc<;>simp at hc
      ·cases hc
   ·have agg:∀ks,flat P 20 t=some ks→(if P.eqGuardType P.depth t then none else some (CIns.pure (.eqA (op== .neq) ks),[x,y]))=some (.pure p,xs)→isAggT P t=true→
     PO P μ w K r (binS op t x y (ρ x) (ρ y)):=by
     intro ks hks hc hA;split at hc
     ·cases hc
     ·rename_i hg;simp only[Option.some.injEq,Prod.mk.injEq,CIns.pure.injEq]at hc;obtain⟨rfl,rfl⟩:=hc;obtain⟨u,v,rfl,hu,hu2⟩:=VRs.inv2 hv;simp only[pureK]at h;obtain⟨a,rfl,h1⟩:=asA_some h;obtain⟨b,rfl,h2⟩:=asA_some h1;obtain⟨h3,h4⟩:=chk_some h2;simp only[Bool.and_eq_true,beq_iff_eq]at h3;obtain⟨q,hq,h5⟩:=optK_some h4;obtain⟨a',e1,ha,_⟩:=hu.agg_inv;obtain⟨b',e2,hb,_⟩:=hu2.agg_inv;rw[e1,e2];have hq':=eqL_real ha hb hq;have:=eq_flat (P:=P) 20 t ks hks (9999+1) (by omega) a'.toList b'.toList q w (by rw[←ha.length];simpa using h3.1) (by rw[←hb.length];simpa using h3.2) hq';rw[valT_agg hA,valT_agg hA]at this;refine⟨_,_,h5,eqOp_run hop (run_eqGuard_agg w op t x y a' b' (by simpa using hg)) ?_ ?_ ?_ ?_ (by simpa using this),.bool _⟩
      ·rintro k1 a k2 b ⟨h1,h2⟩;cases h1
      ·rintro a b ⟨h1,h2⟩;cases h1
      ·rintro k1 a k2 b ⟨h1,h2⟩;cases h1
      ·rintro k1 a1 a2 k2 b1 b2 ⟨h1,h2⟩;cases h1
    cases d;case bool=>
     simp only[Option.some.injEq,Prod.mk.injEq,CIns.pure.injEq]at hc;obtain⟨rfl,rfl⟩:=hc;obtain⟨u,v,rfl,hu,hu2⟩:=VRs.inv2 hv;simp only[pureK]at h;obtain⟨a,rfl,h1⟩:=asB_some h;obtain⟨b,rfl,h2⟩:=asB_some h1;rw[hu.bool_inv,hu2.bool_inv];refine⟨_,_,h2,eqOp_run hop (guard_at (by intro c hc;cases hc) (.inl (by intro hc;cases hc))) ?_ ?_ ?_ ?_ (run_equalIn_bool' w 9999 t a b e),.bool _⟩
     ·rintro k1 a k2 b ⟨h1,h2⟩;cases h1
     ·rintro a b ⟨h1,h2⟩;cases h1
     ·rintro k1 a k2 b ⟨h1,h2⟩;cases h1
     ·rintro k1 a1 a2 k2 b1 b2 ⟨h1,h2⟩;cases h1
    case struct fs=>
     simp only at hc;split at hc
     ·rename_i hks;exact agg _ hks hc (by simp[isAggT,e])
     ·cases hc
    case array n el=>
     simp only at hc;split at hc
     ·rename_i hks;exact agg _ hks hc (by simp[isAggT,e])
     ·cases hc
    all_goals cases hc
  split at hc
  ·exact hmain (.inl rfl) hc
  ·exact hmain (.inr rfl) hc
  ·cases hc
 ·cases hc
end
section
variable{P:Program}
theorem mm_ok{mx:Bool}{k:IntKind}{w:World}{K:Int→Res}{r:Value×Heap}{μ:Mu}:∀{vs vs':List Value} {a:Int},VRs μ vs vs'→mmL mx k vs a K=some r→
  ∃b,K b=some r∧(vs'.foldlM (if mx then Builtin.max2 else Builtin.min2) (.int k a)).run P w=.ok (.int k b) w
 |[],[],a,_,h=>⟨a,by simpa[mmL]using h,by simp⟩
 |v::vs,v'::vs',a,hv,h=>by
  simp only[mmL]at h;obtain⟨b,rfl,h1⟩:=asI_some h;obtain⟨c,h2,h3⟩:=mm_ok (w:=w) hv.2 h1;refine⟨c,h2,?_⟩;rw[hv.1.int_inv,List.foldlM_cons];cases mx
  ·simp only[Bool.false_eq_true,if_false]at h3⊢;simp only[Sem.run_bind,Builtin.min2,Sem.run_pure,Result.andThen_ok,h3]
  ·simp only[if_true]at h3⊢;have:(if b>a then b else a)=(if a<b then b else a):=rfl;simp only[Sem.run_bind,Builtin.max2,Sem.run_pure,Result.andThen_ok,this,h3]
theorem partsOf_ok{fs:Array Field}:∀{l:List (Nat×Operand)} {ps:List (Nat×Nat)} {xs:List Operand},partsOf P fs l=some (ps,xs)→
  xs=l.map (·.2)∧ps.length=l.length∧∀(k i:Nat),(l.map (·.1))[k]?=some i→(fs.map fun f=>(f.offset,P.cellsOf f.type))[i]?=ps[k]?
 |[],_,_,h=>by simp only[partsOf,Option.some.injEq,Prod.mk.injEq]at h;obtain⟨rfl,rfl⟩:=h;exact⟨rfl,rfl,by simp⟩
 |(i,x)::l,ps,xs,h=>by
  unfold partsOf at h;split at h
  ·rename_i f ps' xs' h1 h2;simp only[Option.some.injEq,Prod.mk.injEq]at h;obtain⟨rfl,rfl⟩:=h;obtain⟨e1,e2,e3⟩:=partsOf_ok h2;refine⟨by simp[e1],by simp[e2],?_⟩;intro k j hk;cases k with
   |zero=>simp at hk;subst hk;simp[h1]
   |succ k=>simpa using e3 k j (by simpa using hk)
  ·cases h
theorem run_mapM_sizes{w:World}(l:List Field)(h:∀f∈l,okElem P f.type=true):
  (l.mapM fun f=>do pure (f.offset,←sizeOf f.type):Sem (List (Nat×Nat))).run P w=.ok (l.map fun f=>(f.offset,P.cellsOf f.type)) w:=by
 induction l with
 |nil=>simp
 |cons f l ih=>rw[List.mapM_cons];simp only[Sem.run_bind,run_sizeOf' (info_some (h f (by simp))),Result.andThen_ok,Sem.run_pure,ih (fun g hg=>h g (by simp[hg])),List.map_cons]
theorem rowParts_ok{size:Nat}{l:List (Nat×Operand)}:(rowParts size l).2=l.map (·.2)∧(rowParts size l).1.length=l.length∧∀(k i:Nat),(l.map (·.1))[k]?=some i→some (i*size,size)=(rowParts size l).1[k]?:=by
 refine⟨rfl,by simp[rowParts],?_⟩;intro k i h;simp only[rowParts,List.getElem?_map,Option.map_eq_some_iff]at h⊢;obtain⟨p,h1,rfl⟩:=h;simp[h1]
theorem zip_map(l:List (Nat×Operand))(ρ:Operand→Value):(l.map fun(p:Nat×Operand)=>(p.1,ρ p.2))=(l.map (·.1)).zip ((l.map (·.2)).map ρ):=by
 induction l with
 |nil=>rfl
 |cons p l ih=>simp[ih]
theorem field_ok{t:TypeId}{f off n:Nat}{agg:Bool}(h:fieldOf P t f=some (off,n,agg)):∃fs x,P.underlying t=some (.struct fs)∧fs[f]?=some x∧okElem P x.type=true∧off=x.offset∧n=P.cellsOf x.type∧agg=isAggT P x.type:=by
 unfold fieldOf at h;split at h
 ·rename_i fs e;split at h
  ·rename_i x hx;split at h
   ·rename_i ho;simp only[Option.some.injEq,Prod.mk.injEq]at h;exact⟨fs,x,e,hx,ho,h.1.symm,h.2.1.symm,h.2.2.symm⟩
   ·cases h
  ·cases h
 ·cases h
theorem run_fieldPlace{x:Field}{a:Addr}{w:World}(h:okElem P x.type=true)(hn:0<P.cellsOf x.type):(fieldPlace a x).run P w=.ok (a.add x.offset) w:=by simp only[fieldPlace,Sem.run_bind,run_sizeOf' (info_some h),Result.andThen_ok];rw[if_neg (by omega)];rfl
theorem sSub_eq(s:ByteArray)(l h:Nat):sSub s l h=s.extract l h:=by apply ByteArray.ext;apply Array.toList_inj.1;simp[sSub,S,lst,List.drop_take]
theorem idxS_ok{w:World}{t:TypeId}{s:ByteArray}{k:IntKind}{n:Int}(e:P.underlying t=some .string)(h:0≤n∧n<slen s):(Instr.index t (.string s) (.int k n)).run P w=.ok (.int .u8 (bt s n.toNat)) w:=by
 have hlt:n.toNat<s.size:=by rw[←slen_size];omega
 simp only[Instr.index,asIntOf,Sem.run_bind,Sem.run_pure,Result.andThen_ok,run_underlying e,if_pos h.1];rw[getElem?_pos s n.toNat hlt];simp only[Sem.run_pure];have:bt s n.toNat=(s[n.toNat].toNat:Int):=by unfold bt lst;rw[List.getD_eq_getElem?_getD,Array.getElem?_toList,Array.getElem?_eq_getElem (by simpa using hlt)];rfl
 rw[this]
theorem subAp_sl{μ:Mu}{a a':Addr}(ha:AR μ a a'){mx:Bool}{size l h m rc:Nat}(h1:l≤h)(h2:h≤m)(_h3:m≤rc)(h4:mx=false→m=rc):VR μ (.slice (some (ap a (l*size))) (h-l) (m-l)) (.slice (some (if(if mx=true then m else rc)=l then a' else a'.add (l*size))) (h-l) ((if mx=true then m else rc)-l)):=by
 have e:(if mx=true then m else rc)=m:=by
  cases mx
  ·simp[h4 rfl]
  ·simp
 rw[e];refine .sl (by omega) (.inl ?_);obtain⟨e1,e2,mb,e3,e4,e5⟩:=ha;by_cases hml:m=l
 ·rw[if_pos hml];exact⟨rfl,e2,mb,e3,e4,.inr (.inr ⟨by omega,by omega,.inl (by omega)⟩)⟩
 ·rw[if_neg hml,ap_eq e2];exact⟨rfl,rfl,mb,e3,e4,.inl ⟨by simp only[ap];omega,rfl⟩⟩
theorem pure_ok{o:Oper}{p:PI}{xs:List Operand}(hc:cOp P o=some (.pure p,xs)):PureOK P o p xs:=by
 intro μ ρ vs w K r hρ hv h;obtain⟨dst,op,type,pos,after,guard⟩:=o;cases op<;>simp only[cOp]at hc;case move x=>simp only[Option.some.injEq,Prod.mk.injEq,CIns.pure.injEq]at hc;obtain⟨rfl,rfl⟩:=hc;obtain⟨u,rfl,hu⟩:=VRs.inv1 hv;exact⟨u,_,h,rfl,hu⟩
 case assign x=>simp only[Option.some.injEq,Prod.mk.injEq,CIns.pure.injEq]at hc;obtain⟨rfl,rfl⟩:=hc;obtain⟨u,rfl,hu⟩:=VRs.inv1 hv;exact⟨u,_,h,rfl,hu⟩
 case pick=>cases hc
 case alloc e=>split at hc<;>cases hc
 case box=>cases hc
 case build t ps=>
  split at hc
  ·rename_i z fs hz e;split at hc
   ·rename_i pl xs' hp;split at hc
    ·rename_i hcond;simp only[Bool.and_eq_true]at hcond;simp only[Option.some.injEq,Prod.mk.injEq,CIns.pure.injEq]at hc;obtain⟨rfl,rfl⟩:=hc;obtain⟨e1,e2,e3⟩:=partsOf_ok hp;simp only[pureK]at h;obtain⟨cs,h1,h2⟩:=optK_some h;obtain⟨z1,z2,z3,z4,z5⟩:=run_zeroValue (w:=w) hz;have ho:∀v∈z,one v=true:=fun v hv=>one_of_plain (List.all_eq_true.1 z2 v hv);rw[e1]at hv;obtain⟨r',f1,f2,f3,f4⟩:=fill_ok (is:=ps.toList.map (·.1)) hv (VRs.of_plain z2) ho (by simp[e2]) e3 h1;refine⟨_,.agg r'.toArray,h2,run_v ?_,VR.agg_of f2 f3⟩;have hm:(fs.mapM fun f=>do pure (f.offset,←sizeOf f.type):Sem (Array (Nat×Nat))).run P w=.ok (fs.map fun f=>(f.offset,P.cellsOf f.type)) w:=by have:=run_mapM_sizes (P:=P) (w:=w) fs.toList (fun f hf=>List.all_eq_true.1 hcond.2 f hf);rw[Array.mapM_eq_mapM_toList];simp only[Sem.run_map,this,Result.andThen_ok];rw[←Array.toList_map]
     simp only[Instr.build,Sem.run_bind,z1,Result.andThen_ok,run_underlying e,hm];have f1':Instr.fill (fun x=>(fs.map fun f=>(f.offset,P.cellsOf f.type))[x]?) z.toArray ((ps.map fun(p:Nat×Operand)=>(p.1,ρ p.2)).toList)=some r'.toArray:=by rw[Array.toList_map,zip_map];exact f1
     rw[cells_valT z4 ho];simp only[f1',Sem.run_pure]
    ·cases hc
   ·cases hc
  ·rename_i z n el hz e;split at hc
   ·rename_i hok;simp only[Option.some.injEq,Prod.mk.injEq,CIns.pure.injEq]at hc;obtain⟨rfl,rfl⟩:=hc;obtain⟨e1,e2,e3⟩:=rowParts_ok (size:=P.cellsOf el) (l:=ps.toList);simp only[pureK]at h;obtain⟨cs,h1,h2⟩:=optK_some h;obtain⟨z1,z2,z3,z4,z5⟩:=run_zeroValue (w:=w) hz;have ho:∀v∈z,one v=true:=fun v hv=>one_of_plain (List.all_eq_true.1 z2 v hv);rw[e1]at hv;obtain⟨r',f1,f2,f3,f4⟩:=fill_ok (place:=fun i=>some (i*P.cellsOf el,P.cellsOf el)) (is:=ps.toList.map (·.1)) hv (VRs.of_plain z2) ho (by simp[e2]) e3 h1;refine⟨_,.agg r'.toArray,h2,run_v ?_,VR.agg_of f2 f3⟩;simp only[Instr.build,Sem.run_bind,z1,Result.andThen_ok,run_underlying e,run_sizeOf' (info_some hok)];have f1':Instr.fill (fun i=>some (i*P.cellsOf el,P.cellsOf el)) z.toArray ((ps.map fun(p:Nat×Operand)=>(p.1,ρ p.2)).toList)=some r'.toArray:=by rw[Array.toList_map,zip_map];exact f1
    rw[cells_valT z4 ho];simp only[f1',Sem.run_pure]
   ·cases hc
  ·cases hc
 case buildSlice=>split at hc<;>(try split at hc)<;>(try split at hc)<;>cases hc
 case load=>split at hc<;>cases hc
 case store=>split at hc<;>cases hc
 case nilCheck x=>
  simp only[Option.some.injEq,Prod.mk.injEq,CIns.pure.injEq]at hc;obtain⟨rfl,rfl⟩:=hc;obtain⟨u,rfl,hu⟩:=VRs.inv1 hv;simp only[pureK]at h;split at h
  ·obtain⟨a',e,ha⟩:=hu.ptr_inv;refine⟨_,_,h,?_,.ptr ha⟩;simp only[execOp,e,Sem.run_pure]
  ·generalize hz:ρ x=z at hu;cases hu with
   |iface t hu=>refine⟨_,_,h,?_,.iface _ hu⟩;simp only[execOp,hz,Sem.run_pure]
  ·cases h
 case binOp op t x y yt=>have:=bin_ok hc (w:=w) hρ hv h;exact this.to rfl
 case unOp op t x=>
  split at hc
  ·simp only[Option.some.injEq,Prod.mk.injEq,CIns.pure.injEq]at hc;obtain⟨rfl,rfl⟩:=hc;obtain⟨u,rfl,hu⟩:=VRs.inv1 hv;simp only[pureK]at h;obtain⟨a,rfl,h1⟩:=asB_some h;exact⟨_,_,h1,run_v (by rw[hu.bool_inv];rfl),.bool _⟩
  ·simp only[Option.some.injEq,Prod.mk.injEq,CIns.pure.injEq]at hc;obtain⟨rfl,rfl⟩:=hc;obtain⟨u,rfl,hu⟩:=VRs.inv1 hv;simp only[pureK]at h;obtain⟨a,rfl,h1⟩:=asI_some h;exact⟨_,_,h1,run_v (by rw[hu.int_inv];rfl),.int _ _⟩
  ·simp only[Option.some.injEq,Prod.mk.injEq,CIns.pure.injEq]at hc;obtain⟨rfl,rfl⟩:=hc;obtain⟨u,rfl,hu⟩:=VRs.inv1 hv;simp only[pureK]at h;obtain⟨a,rfl,h1⟩:=asI_some h;exact⟨_,_,h1,run_v (by rw[hu.int_inv];exact run_intBits (op:=.xor) (P:=P) (w:=w) rfl),.int _ _⟩
  ·cases hc
 case convert s d x=>
  unfold cConv at hc;split at hc;case isTrue=>cases hc
  unfold cConv0 at hc;split at hc
  ·rename_i k1 k2 e1 e2;simp only[Option.some.injEq,Prod.mk.injEq,CIns.pure.injEq]at hc;obtain⟨rfl,rfl⟩:=hc;obtain⟨u,rfl,hu⟩:=VRs.inv1 hv;simp only[pureK]at h;obtain⟨k,a,rfl,h1⟩:=asN_some h;refine⟨_,_,h1,run_v ?_,.int _ _⟩;rw[hu.int_inv];simp[convert,run_underlying e1,run_underlying e2,Conv.intToInt]
  ·rename_i k1 e1 e2;simp only[Option.some.injEq,Prod.mk.injEq,CIns.pure.injEq]at hc;obtain⟨rfl,rfl⟩:=hc;obtain⟨u,rfl,hu⟩:=VRs.inv1 hv;simp only[pureK]at h;obtain⟨k,a,rfl,h1⟩:=asN_some h;refine⟨_,_,h1,run_v ?_,.string _⟩;rw[hu.int_inv];simp[convert,run_underlying e1,run_underlying e2,Conv.intToString]
  ·rename_i e1 e2;simp only[Option.some.injEq,Prod.mk.injEq,CIns.pure.injEq]at hc;obtain⟨rfl,rfl⟩:=hc;obtain⟨u,rfl,hu⟩:=VRs.inv1 hv;simp only[pureK]at h;obtain⟨a,rfl,h1⟩:=asS_some h;refine⟨_,_,h1,run_v ?_,.string _⟩;rw[hu.string_inv];simp[convert,run_underlying e1,run_underlying e2]
  ·split at hc<;>(try split at hc)<;>cases hc
  ·split at hc<;>cases hc
  ·split at hc<;>(try split at hc)<;>cases hc
  ·split at hc<;>cases hc
  ·cases hc
 case sliceToArrayPointer=>cases hc
 case makeInterface t x=>
  split at hc
  ·cases hc
  ·rename_i d hd e;simp only[Option.some.injEq,Prod.mk.injEq,CIns.pure.injEq]at hc;obtain⟨rfl,rfl⟩:=hc;obtain⟨u,rfl,hu⟩:=VRs.inv1 hv;refine⟨_,_,h,run_v (run_makeInterface w t (ρ x) ?_),.iface _ hu⟩;unfold Program.concrete;rw[e];cases d<;>first|rfl|exact absurd rfl (hd _)
  ·cases hc
 case makeFunc fn first cap=>
  simp only[Option.some.injEq,Prod.mk.injEq,CIns.pure.injEq]at hc;obtain⟨rfl,rfl⟩:=hc;simp only[pureK]at h;refine⟨_,_,h,rfl,?_⟩;rw[List.map_append]at hv;have h1:=hv.take first.size
  have h2:=hv.drop first.size
  rw[List.take_left' (by simp)]at h1;rw[List.drop_left' (by simp)]at h2;have hl1:=h1.length;have hl2:=h2.length;refine .func fn (by simpa using hl1) (fun i hi hi'=>?_) (by simpa using hl2) (fun i hi hi'=>?_)
  ·obtain⟨v',e1,e2⟩:=h1.get i _ (List.getElem?_eq_getElem (by simpa using hi));have:v'=(first.map ρ)[i]:=by rw[List.getElem?_map,Array.getElem?_toList,Array.getElem?_eq_getElem (by simpa using hi')]at e1;simpa using e1.symm
   rw[this]at e2;simpa using e2
  ·obtain⟨v',e1,e2⟩:=h2.get i _ (List.getElem?_eq_getElem (by simpa using hi));have:v'=(cap.map ρ)[i]:=by rw[List.getElem?_map,Array.getElem?_toList,Array.getElem?_eq_getElem (by simpa using hi')]at e1;simpa using e1.symm
   rw[this]at e2;simpa using e2
 case makeMap=>split at hc<;>cases hc
 case lookup=>split at hc<;>(try split at hc)<;>cases hc
 case mapUpdate=>split at hc<;>cases hc
 case insert=>split at hc<;>cases hc
 case makeChan=>cases hc
 case makeSlice=>split at hc<;>(try split at hc)<;>(try split at hc)<;>cases hc
 case slice t x lo hi mx=>
  unfold cSlice at hc;have e3:(x::(lo.toList++hi.toList++mx.toList)).map ρ=ρ x::((lo.map ρ).toList++(hi.map ρ).toList++(mx.map ρ).toList):=by cases lo<;>cases hi<;>cases mx<;>rfl
  simp only at hc;split at hc
  ·rename_i e;split at hc
   ·rename_i hm;simp only[Option.some.injEq,Prod.mk.injEq,CIns.pure.injEq]at hc;obtain⟨rfl,rfl⟩:=hc;rw[e3]at hv;obtain rfl:mx=none:=by simpa using hm
    match vs,hv with
    |u::vs,hv=>simp only[pureK]at h;obtain⟨s,rfl,h1⟩:=asS_some h;have hb:=bnds_ok (P:=P) (w:=w) (lo:=lo.map ρ) (hi:=hi.map ρ) (mx:=(none:Option Value)) (rc:=slen s) (isS:=false) (Nat.le_refl _) (Nat.le_refl _) hv.2 (by simpa using h1);obtain⟨l,hh,m,h2,h3,h4,h5,h6,h7⟩:=hb;refine⟨_,_,h2,run_v ?_,.string _⟩;rw[hv.1.string_inv];simp only[Instr.sliceAt,Sem.run_bind,run_underlying e,Result.andThen_ok,Instr.slice,Option.map_none,Option.isSome_none,Bool.false_eq_true,if_false,←slen_size,h7,Sem.run_pure,sSub_eq]
   ·cases hc
  ·split at hc<;>cases hc
  ·rename_i n el e;split at hc
   ·rename_i hok;simp only[Option.some.injEq,Prod.mk.injEq,CIns.pure.injEq]at hc;obtain⟨rfl,rfl⟩:=hc;rw[e3]at hv
    match vs,hv with
    |u::vs,hv=>
     simp only[pureK]at h;obtain⟨a,rfl,h1⟩:=asP_some h;cases a with
     |none=>cases h1
     |some a=>simp only at h1;have hb:=bnds_ok (P:=P) (w:=w) (lo:=lo.map ρ) (hi:=hi.map ρ) (mx:=mx.map ρ) (rc:=n) (isS:=false) (Nat.le_refl _) (Nat.le_refl _) hv.2 (by simpa using h1);obtain⟨l,hh,m,h2,h3,h4,h5,h6,h7⟩:=hb;obtain⟨a',e',ha⟩:=hv.1.ptr_inv;refine⟨_,_,h2,run_v ?_,subAp_sl ha (mx:=(mx.map ρ).isSome) (rc:=n) (size:=P.cellsOf el) h3 h4 h5 (fun hm=>h6 (by simpa using hm))⟩;rw[e'];simp only[Instr.sliceAt,Sem.run_bind,run_underlying e,Result.andThen_ok,Instr.sureAddr,Sem.run_pure,h7,run_sizeOf' (info_some hok)]
   ·cases hc
  ·rename_i arr e;split at hc
   ·rename_i n el e1;split at hc
    ·rename_i hok;simp only[Option.some.injEq,Prod.mk.injEq,CIns.pure.injEq]at hc;obtain⟨rfl,rfl⟩:=hc;rw[e3]at hv
     match vs,hv with
     |u::vs,hv=>
      simp only[pureK]at h;obtain⟨a,rfl,h1⟩:=asP_some h;cases a with
      |none=>cases h1
      |some a=>simp only at h1;have hb:=bnds_ok (P:=P) (w:=w) (lo:=lo.map ρ) (hi:=hi.map ρ) (mx:=mx.map ρ) (rc:=n) (isS:=false) (Nat.le_refl _) (Nat.le_refl _) hv.2 (by simpa using h1);obtain⟨l,hh,m,h2,h3,h4,h5,h6,h7⟩:=hb;obtain⟨a',e',ha⟩:=hv.1.ptr_inv;refine⟨_,_,h2,run_v ?_,subAp_sl ha (mx:=(mx.map ρ).isSome) (rc:=n) (size:=P.cellsOf el) h3 h4 h5 (fun hm=>h6 (by simpa using hm))⟩;rw[e'];simp only[Instr.sliceAt,Sem.run_bind,run_underlying e,Result.andThen_ok,Instr.slice,asAddr,Sem.run_pure,run_underlying e1,h7,run_sizeOf' (info_some hok)]
    ·cases hc
   ·cases hc
  ·cases hc
 case fieldAddr s x f=>
  split at hc
  ·rename_i off n agg hf;split at hc
   ·rename_i hn;simp only[Option.some.injEq,Prod.mk.injEq,CIns.pure.injEq]at hc;obtain⟨rfl,rfl⟩:=hc;obtain⟨fs,fx,e,hx,hok,rfl,rfl,rfl⟩:=field_ok hf;obtain⟨u,rfl,hu⟩:=VRs.inv1 hv;simp only[pureK]at h;obtain⟨a,rfl,h1⟩:=asP_some h;cases a with
    |none=>cases h1
    |some a=>obtain⟨a',e',ha⟩:=hu.ptr_inv;refine⟨_,_,h1,run_v ?_,.ptr (ha.ap fx.offset)⟩;rw[e'];simp only[Instr.fieldAt,Sem.run_bind,run_underlying e,Result.andThen_ok,hx,Instr.sureAddr,Sem.run_pure,run_fieldPlace hok hn]
   ·cases hc
  ·cases hc
 case field t x f=>
  split at hc
  ·rename_i off n agg hf;simp only[Option.some.injEq,Prod.mk.injEq,CIns.pure.injEq]at hc;obtain⟨rfl,rfl⟩:=hc;obtain⟨fs,fx,e,hx,hok,rfl,rfl,rfl⟩:=field_ok hf;obtain⟨u,rfl,hu⟩:=VRs.inv1 hv;simp only[pureK]at h;obtain⟨cs,rfl,h1⟩:=asA_some h;obtain⟨y,h2,h3⟩:=optK_some h1;obtain⟨cs',e',hcs,ho⟩:=hu.agg_inv;obtain⟨y',h4,h5⟩:=part_ok (w:=w) hok hcs ho h2;refine⟨_,_,h3,run_v ?_,h5⟩;rw[e'];simp only[Instr.field,Sem.run_bind,run_underlying e,Result.andThen_ok,hx,asAgg,Sem.run_pure];simpa using h4
  ·cases hc
 case indexAddr t x i=>
  split at hc
  ·rename_i n el e;split at hc
   ·rename_i hok;simp only[Option.some.injEq,Prod.mk.injEq,CIns.pure.injEq]at hc;obtain⟨rfl,rfl⟩:=hc;obtain⟨u,v,rfl,hu,hu2⟩:=VRs.inv2 hv;simp only[pureK]at h;obtain⟨a,rfl,h1⟩:=asP_some h;obtain⟨k,j,rfl,h2⟩:=asN_some h1;cases a with
    |none=>cases h2
    |some a=>
     simp only at h2;split at h2
     ·rename_i hj;obtain⟨a',e',ha⟩:=hu.ptr_inv;refine⟨_,_,h2,run_v ?_,.ptr (ha.ap _)⟩;rw[e',hu2.int_inv];simp only[Instr.indexAt,asIntOf,Sem.run_bind,Sem.run_pure,Result.andThen_ok,run_underlying e,Instr.sureAddr,if_pos hj,run_sizeOf' (info_some hok)]
     ·cases h2
   ·cases hc
  ·rename_i el e;split at hc
   ·rename_i hok;simp only[Option.some.injEq,Prod.mk.injEq,CIns.pure.injEq]at hc;obtain⟨rfl,rfl⟩:=hc;obtain⟨u,v,rfl,hu,hu2⟩:=VRs.inv2 hv;simp only[pureK]at h;obtain⟨a,n,c,rfl,h1⟩:=asSl_some h;obtain⟨k,j,rfl,h2⟩:=asN_some h1;cases a with
    |none=>cases h2
    |some a=>
     simp only at h2;split at h2
     ·rename_i hj;obtain⟨a',c',e',hl,ha⟩:=hu.sl_inv;refine⟨_,_,h2,run_v ?_,.ptr (ha.elem (by omega) _)⟩;rw[e',hu2.int_inv];simp only[Instr.indexAt,asIntOf,Sem.run_bind,Sem.run_pure,Result.andThen_ok,run_underlying e,if_pos hj,run_sizeOf' (info_some hok)]
     ·cases h2
   ·cases hc
  ·cases hc
 case index t x i=>
  split at hc
  ·rename_i n el e;split at hc
   ·rename_i hok;simp only[Option.some.injEq,Prod.mk.injEq,CIns.pure.injEq]at hc;obtain⟨rfl,rfl⟩:=hc;obtain⟨u,v,rfl,hu,hu2⟩:=VRs.inv2 hv;simp only[pureK]at h;obtain⟨cs,rfl,h1⟩:=asA_some h;obtain⟨k,j,rfl,h2⟩:=asN_some h1;split at h2
    ·rename_i hj;obtain⟨y,h3,h4⟩:=optK_some h2;obtain⟨cs',e',hcs,ho⟩:=hu.agg_inv;obtain⟨y',h5,h6⟩:=part_ok (w:=w) hok hcs ho h3;refine⟨_,_,h4,run_v ?_,h6⟩;rw[e',hu2.int_inv];simp only[Instr.index,asIntOf,Sem.run_bind,Sem.run_pure,Result.andThen_ok,run_underlying e,if_pos hj,run_sizeOf' (info_some hok)];simpa using h5
    ·cases h2
   ·cases hc
  ·rename_i e;simp only[Option.some.injEq,Prod.mk.injEq,CIns.pure.injEq]at hc;obtain⟨rfl,rfl⟩:=hc;obtain⟨u,v,rfl,hu,hu2⟩:=VRs.inv2 hv;simp only[pureK]at h;obtain⟨s,rfl,h1⟩:=asS_some h;obtain⟨k,j,rfl,h2⟩:=asN_some h1;split at h2
   ·rename_i hj;refine⟨_,_,h2,run_v ?_,.int _ _⟩;rw[hu.string_inv,hu2.int_inv];exact idxS_ok e hj
   ·cases h2
  ·cases hc
 case range t x=>split at hc<;>cases hc
 case next it isS=>split at hc<;>cases hc
 case extract x i=>
  simp only[Option.some.injEq,Prod.mk.injEq,CIns.pure.injEq]at hc;obtain⟨rfl,rfl⟩:=hc;obtain⟨u,rfl,hu⟩:=VRs.inv1 hv;simp only[pureK]at h;split at h
  ·obtain⟨y,h1,h2⟩:=optK_some h;obtain⟨c',e',hcs⟩:=hu.tuple_inv;obtain⟨y',h3,h4⟩:=hcs.get i y h1;refine⟨_,_,h2,run_v ?_,h4⟩;rw[e'];rw[Array.getElem?_toList]at h3;simp only[Instr.extract,h3,Sem.run_pure]
  ·cases h
 case call c=>
  obtain⟨callee,args,argTypes⟩:=c;cases callee with
  |value f=>cases f<;>simp at hc
  |invoke r m=>cases hc
  |builtin b=>
   simp only at hc;unfold cBuiltin at hc;split at hc
   ·rename_i t x ht hargs;have hA:argTypes= #[t]:=by rw[←Array.toList_inj];simpa using ht
    have hB:args= #[x]:=by rw[←Array.toList_inj];simpa using hargs
    subst hA hB;have hex:∀{s:Sem Value} {v v':Value},K v=some r→VR μ v v'→s=Builtin.len_ #[t] type #[ρ x]→s.run P w=.ok v' w→∃v v',K v=some r∧(execOp ρ ⟨dst,.call ⟨.builtin .len,#[x],#[t]⟩,type,pos,after,guard⟩).run P w=.ok (.value v') w∧VR μ v v':=by
     intro s v v' h1 h2 h3 h4;refine⟨v,v',h1,?_,h2⟩;rw[h3]at h4;simp only[execOp,resolve,Sem.run_bind,Sem.run_pure,Result.andThen_ok,invoke,builtin];simp[h4]
    split at hc
    ·rename_i e;simp only[Option.some.injEq,Prod.mk.injEq,CIns.pure.injEq]at hc;obtain⟨rfl,rfl⟩:=hc;obtain⟨u,rfl,hu⟩:=VRs.inv1 hv;simp only[pureK]at h;obtain⟨s,rfl,h1⟩:=asS_some h;refine hex h1 (.int _ _) rfl ?_;rw[hu.string_inv];simp[Builtin.len_,run_underlying e,goInt,slen_size]
    ·rename_i n el e;simp only[Option.some.injEq,Prod.mk.injEq,CIns.pure.injEq]at hc;obtain⟨rfl,rfl⟩:=hc;obtain⟨u,rfl,hu⟩:=VRs.inv1 hv;refine hex h (.int _ _) rfl ?_;simp[Builtin.len_,run_underlying e,goInt]
    ·rename_i el e;simp only[Option.some.injEq,Prod.mk.injEq,CIns.pure.injEq]at hc;obtain⟨rfl,rfl⟩:=hc;obtain⟨u,rfl,hu⟩:=VRs.inv1 hv;simp only[pureK]at h;obtain⟨a,n,c,rfl,h1⟩:=asSl_some h;cases a with
     |none=>obtain⟨rfl,rfl,e'⟩:=hu.slN_inv;refine hex h1 (.int _ _) rfl ?_;rw[e'];simp[Builtin.len_,run_underlying e,goInt]
     |some a=>obtain⟨a',c',e',_,_⟩:=hu.sl_inv;refine hex h1 (.int _ _) rfl ?_;rw[e'];simp[Builtin.len_,run_underlying e,goInt]
    ·rename_i arr e;split at hc
     ·rename_i n el e1;simp only[Option.some.injEq,Prod.mk.injEq,CIns.pure.injEq]at hc;obtain⟨rfl,rfl⟩:=hc;obtain⟨u,rfl,hu⟩:=VRs.inv1 hv;refine hex h (.int _ _) rfl ?_;simp[Builtin.len_,run_underlying e,run_underlying e1,goInt]
     ·cases hc
    ·cases hc
    ·cases hc
   ·rename_i t ts xs' ht hargs;split at hc
    ·rename_i k e;simp only[Option.some.injEq,Prod.mk.injEq,CIns.pure.injEq]at hc;obtain⟨rfl,rfl⟩:=hc
     match vs,args,hargs,hv,h with
     |[],_,_,_,h=>simp[pureK]at h
     |u::vs,args,_,hv,h=>
      obtain⟨args⟩:=args
      match args,hv with
      |x::xs,hv=>simp only[List.map_cons]at hv;simp only[pureK]at h;obtain⟨a,rfl,h1⟩:=asI_some h;obtain⟨b,h2,h3⟩:=mm_ok (P:=P) (w:=w) hv.2 h1;refine⟨_,.int k b,h2,?_,.int _ _⟩;simp only[execOp,resolve,Sem.run_bind,Sem.run_pure,Result.andThen_ok,invoke,builtin];simp only[Bool.false_eq_true,if_false]at h3;simp[Builtin.min_,hv.1.int_inv,h3]
    ·cases hc
   ·rename_i t ts xs' ht hargs;split at hc
    ·rename_i k e;simp only[Option.some.injEq,Prod.mk.injEq,CIns.pure.injEq]at hc;obtain⟨rfl,rfl⟩:=hc
     match vs,args,hargs,hv,h with
     |[],_,_,_,h=>simp[pureK]at h
     |u::vs,args,_,hv,h=>
      obtain⟨args⟩:=args
      match args,hv with
      |x::xs,hv=>simp only[List.map_cons]at hv;simp only[pureK]at h;obtain⟨a,rfl,h1⟩:=asI_some h;obtain⟨b,h2,h3⟩:=mm_ok (P:=P) (w:=w) hv.2 h1;refine⟨_,.int k b,h2,?_,.int _ _⟩;simp only[execOp,resolve,Sem.run_bind,Sem.run_pure,Result.andThen_ok,invoke,builtin];simp only[if_true]at h3;simp[Builtin.max_,hv.1.int_inv,h3]
    ·cases hc
   ·split at hc<;>(try split at hc)<;>cases hc
   ·split at hc<;>(try split at hc)<;>cases hc
   ·split at hc<;>(try split at hc)<;>cases hc
   ·split at hc<;>cases hc
   ·cases hc
   ·split at hc<;>(try split at hc)<;>(try split at hc)<;>cases hc
   ·cases hc
 all_goals cases hc
end
end Go.Cm
