/-
  The program's integers (1).
-/
import Derived.Test.YtilhffelllbggaaGreatPb
import Derived.Test.YtilhffelllbggaaGreatLd
set_option linter.unusedVariables false
set_option linter.unusedSimpArgs false
set_option maxRecDepth 10000
namespace Go.Sh
theorem ofInt32(x:BitVec 32):BitVec.ofInt 32 (x.toNat:Int)=x:=by simp
theorem wrapB(x:BitVec 32):wrS .u32 (x.toNat:Int)=(x.toNat:Int):=by
 have:=x.isLt
 exact wrapU32 (by omega) (by omega)
section
variable {u:Option TyI} {x y:BitVec 32}
theorem b_orB:bnS .or u (.int .u32 (x.toNat:Int)) (.int .u32 (y.toNat:Int))=some (.int .u32 ((x ||| y).toNat:Int)):=by
 have e:bnS .or u (.int .u32 (x.toNat:Int)) (.int .u32 (y.toNat:Int))=some (.int .u32 (wrS .u32 (BitVec.ofInt 32 (x.toNat:Int) ||| BitVec.ofInt 32 (y.toNat:Int)).toNat)):=rfl
 rw[e,ofInt32,ofInt32,wrapB]
theorem b_andB:bnS .and u (.int .u32 (x.toNat:Int)) (.int .u32 (y.toNat:Int))=some (.int .u32 ((x &&& y).toNat:Int)):=by
 have e:bnS .and u (.int .u32 (x.toNat:Int)) (.int .u32 (y.toNat:Int))=some (.int .u32 (wrS .u32 (BitVec.ofInt 32 (x.toNat:Int) &&& BitVec.ofInt 32 (y.toNat:Int)).toNat)):=rfl
 rw[e,ofInt32,ofInt32,wrapB]
theorem b_xorB:bnS .xor u (.int .u32 (x.toNat:Int)) (.int .u32 (y.toNat:Int))=some (.int .u32 ((x ^^^ y).toNat:Int)):=by
 have e:bnS .xor u (.int .u32 (x.toNat:Int)) (.int .u32 (y.toNat:Int))=some (.int .u32 (wrS .u32 (BitVec.ofInt 32 (x.toNat:Int) ^^^ BitVec.ofInt 32 (y.toNat:Int)).toNat)):=rfl
 rw[e,ofInt32,ofInt32,wrapB]
theorem u_xorB:unS .xor (.int .u32 (x.toNat:Int))=some (.int .u32 ((~~~x).toNat:Int)):=by
 have e:unS .xor (.int .u32 (x.toNat:Int))=some (.int .u32 (wrS .u32 (BitVec.ofInt 32 4294967295 ^^^ BitVec.ofInt 32 (x.toNat:Int)).toNat)):=rfl
 have h:BitVec.ofInt 32 4294967295=BitVec.allOnes 32:=by decide
 rw[e,ofInt32,h,BitVec.allOnes_xor,wrapB]
end
theorem nat_bv{n:Nat}(h:n<4294967296):∃x:BitVec 32,n=x.toNat:=⟨BitVec.ofNat 32 n,by rw[BitVec.toNat_ofNat];omega⟩
theorem top_bit(x:BitVec 32):x.toNat/2147483648=if x.msb then 1 else 0:=by
 have h:=x.isLt
 rw[BitVec.msb_eq_decide]
 by_cases h2:2147483648≤x.toNat
 ·simp[h2];omega
 ·simp[h2];omega
theorem b_or64{u:Option TyI}{a b i:Nat}(hb:b<2^i)(h:2^i*a+b<18446744073709551616):bnS .or u (.int .u64 ((2^i*a:Nat):Int)) (.int .u64 (b:Int))=some (.int .u64 ((2^i*a+b:Nat):Int)):=by
 have e:bnS .or u (.int .u64 ((2^i*a:Nat):Int)) (.int .u64 (b:Int))=some (.int .u64 (wrS .u64 (BitVec.ofInt 64 ((2^i*a:Nat):Int) ||| BitVec.ofInt 64 (b:Int)).toNat)):=rfl
 rw[e]
 have e1:(BitVec.ofInt 64 ((2^i*a:Nat):Int) ||| BitVec.ofInt 64 (b:Int)).toNat=2^i*a+b:=by
  rw[BitVec.toNat_or,BitVec.ofInt_natCast,BitVec.ofInt_natCast,BitVec.toNat_ofNat,BitVec.toNat_ofNat,Nat.two_pow_add_eq_or_of_lt hb]
  generalize 2^i*a=t at h ⊢
  rw[Nat.mod_eq_of_lt (by omega),Nat.mod_eq_of_lt (by omega)]
 rw[e1]
 generalize 2^i*a+b=t at h ⊢
 rw[wrapU64 (by omega) (by omega)]
theorem b_or32{u:Option TyI}{a b i:Nat}(hb:b<2^i)(h:2^i*a+b<4294967296):bnS .or u (.int .u32 (b:Int)) (.int .u32 ((2^i*a:Nat):Int))=some (.int .u32 ((2^i*a+b:Nat):Int)):=by
 have e:bnS .or u (.int .u32 (b:Int)) (.int .u32 ((2^i*a:Nat):Int))=some (.int .u32 (wrS .u32 (BitVec.ofInt 32 (b:Int) ||| BitVec.ofInt 32 ((2^i*a:Nat):Int)).toNat)):=rfl
 rw[e]
 have e1:(BitVec.ofInt 32 (b:Int) ||| BitVec.ofInt 32 ((2^i*a:Nat):Int)).toNat=2^i*a+b:=by
  rw[BitVec.toNat_or,BitVec.ofInt_natCast,BitVec.ofInt_natCast,BitVec.toNat_ofNat,BitVec.toNat_ofNat,Nat.two_pow_add_eq_or_of_lt hb,Nat.or_comm]
  generalize 2^i*a=t at h ⊢
  rw[Nat.mod_eq_of_lt (by omega),Nat.mod_eq_of_lt (by omega)]
 rw[e1]
 generalize 2^i*a+b=t at h ⊢
 rw[wrapU32 (by omega) (by omega)]
end Go.Sh
namespace Go.Proofs
open Go.Sh
theorem borrow_bit(x y d:BitVec 32)(b:Nat)(hb:b≤1)(hd:d.toNat=(x.toNat+8589934592-y.toNat-b)%4294967296):((~~~x &&& y) ||| (~~~(x ^^^ y) &&& d)).toNat/2147483648=if x.toNat<y.toNat+b then 1 else 0:=by
 rw[top_bit]
 have hx:=x.isLt
 have hy:=y.isLt
 have hdl:=d.isLt
 simp only[BitVec.msb_or,BitVec.msb_and,BitVec.msb_not,BitVec.msb_xor]
 rw[BitVec.msb_eq_decide x,BitVec.msb_eq_decide y,BitVec.msb_eq_decide d]
 have e:(2:Nat)^(32-1)=2147483648:=rfl
 rw[e]
 generalize x.toNat=X at *
 generalize y.toNat=Y at *
 generalize d.toNat=D at *
 by_cases h1:2147483648≤X<;>by_cases h2:2147483648≤Y<;>by_cases h3:2147483648≤D<;>by_cases h4:X<Y+b<;>simp[h1,h2,h3,h4]<;>omega
theorem m_sub32{x y b:Nat}{Q:SV→Prop}(hx:x<4294967296)(hy:y<4294967296)(hb:b≤1)(h:∀d w:Nat,d<4294967296→w≤1→d+y+b=x+4294967296*w→Q (.tup [.int .u32 (d:Int),.int .u32 (w:Int)])) :
  wpO (pW cT 242 [.int .u32 (x:Int),.int .u32 (y:Int),.int .u32 (b:Int)]) Q:=by
 refine po rfl (F242_ok (k:=fun v S=>wpO (frz S dS v) Q) ?_)
 unfold F242
 simp only[b_sub,ws]
 have hd1:wrS .u32 (wrS .u32 ((x:Int)-(y:Int))-(b:Int))=(((x+8589934592-y-b)%4294967296:Nat):Int):=by
  rw[wrapU32m,wrapU32m];omega
 rw[hd1]
 have hdl:=Nat.mod_lt (x+8589934592-y-b) (show 0<4294967296 by decide)
 generalize hd:(x+8589934592-y-b)%4294967296=d at hdl
 clear hd1
 obtain⟨X,rfl⟩:=nat_bv hx
 obtain⟨Y,rfl⟩:=nat_bv hy
 obtain⟨D,rfl⟩:=nat_bv hdl
 refine wo u_xorB (wo b_andB (wo b_xorB (wo u_xorB (wo b_andB (wo b_orB ?_)))))
 have hbit:=borrow_bit X Y D b hb hd.symm
 generalize (~~~X &&& Y) ||| (~~~(X ^^^ Y) &&& D)=Z at hbit
 have hsh:bnS .shr (some y23) (.int .u32 (Z.toNat:Int)) (.int .u64 31)=some (.int .u32 ((Z.toNat/2147483648:Nat):Int)):=by
  have h:=b_shr (u:=some y23) (k:=.u32) (k':=.u64) (a:=(Z.toNat:Int)) (n:=31) (by decide)
  refine Eq.trans h ?_
  rw[show(2:Int)^31=2147483648 from rfl,Int.fdiv_eq_ediv_of_nonneg _ (by omega)]
  congr 2
 refine wo hsh ?_
 rw[hbit]
 generalize X.toNat=x at *
 generalize Y.toNat=y at *
 generalize D.toNat=d at *
 by_cases hc:x<y+b
 ·rw[if_pos hc]
  exact h d 1 hdl (Nat.le_refl _) (by omega)
 ·rw[if_neg hc]
  exact h d 0 hdl (by omega) (by omega)
theorem shl32{u:Option TyI}{a:Nat}(h:a<4294967296):bnS .shl u (.int .u64 (a:Int)) (.int .u64 32)=some (.int .u64 ((2^32*a:Nat):Int)):=by
 have h2:=b_shl (u:=u) (k:=.u64) (k':=.u64) (a:=(a:Int)) (n:=32) (by decide)
 refine Eq.trans h2 ?_
 rw[show(2:Int)^32=4294967296 from rfl,show(2:Nat)^32=4294967296 from rfl,wrapU64 (by omega) (by omega)]
 congr 2;omega
theorem join32{u:Option TyI}{a b:Nat}(hb:b<4294967296)(h:a*4294967296+b<18446744073709551616):bnS .or u (.int .u64 ((2^32*a:Nat):Int)) (.int .u64 (b:Int))=some (.int .u64 ((a*4294967296+b:Nat):Int)):=by
 have e:(2:Nat)^32=4294967296:=rfl
 have e2:2^32*a+b=a*4294967296+b:=by rw[e];omega
 have:=b_or64 (u:=u) (a:=a) (b:=b) (i:=32) (by rw[e];exact hb) (by rw[e2];exact h)
 rw[this,e2]
theorem m_div32{hi lo y:Nat}{Q:SV→Prop}(hhi:hi<y)(hlo:lo<4294967296)(hy:y<4294967296)(h:Q (.tup [.int .u32 (((hi*4294967296+lo)/y:Nat):Int),.int .u32 (((hi*4294967296+lo)%y:Nat):Int)])) :
  wpO (pW cT 300 [.int .u32 (hi:Int),.int .u32 (lo:Int),.int .u32 (y:Int)]) Q:=by
 refine po rfl (F300_ok (k:=fun v S=>wpO (frz S dS v) Q) ?_)
 unfold F300
 simp only[b_neq,ws]
 rw[decide_eq_true (by omega)]
 simp only[grdP_tt,b_leq,ws,pickS_t]
 rw[decide_eq_false (by omega),cf_]
 have hhi2:hi<4294967296:=by omega
 have c1:=conv51 hhi2
 have c2:=conv51 hlo
 have c3:=conv51 hy
 rw[c1,ws]
 have c5:=shl32 (u:=some y25) hhi2
 rw[c5,ws,c2,ws]
 have c6:=join32 (u:=some y25) (a:=hi) (b:=lo) hlo (by omega)
 rw[c6,ws,c3,ws]
 have c7:=b_quoN (u:=some y25) (a:=hi*4294967296+lo) (p:=y) (by omega) (by omega)
 rw[c7,ws]
 clear c7 c6 c5
 have hq:(hi*4294967296+lo)/y<4294967296:=by
  refine Nat.div_lt_of_lt_mul ?_
  have:=Nat.mul_le_mul_right 4294967296 (show hi+1≤y by omega)
  omega
 have hr:=Nat.mod_lt (hi*4294967296+lo) (show 0<y by omega)
 have hrn:=b_remN (u:=some y25) (k:=.u64) (a:=hi*4294967296+lo) (p:=y) (by omega)
 generalize (hi*4294967296+lo)/y=q at hq h ⊢
 generalize hi*4294967296+lo=t at *
 generalize t%y=r at hr h hrn ⊢
 have c4:∀n:Nat,n<4294967296→convS y23 (.int .u64 (n:Int))=some (.int .u32 (n:Int)):=fun n hn=>by
  have:convS y23 (.int .u64 (n:Int))=some (.int .u32 (wrS .u32 (n:Int))):=conv_int rfl rfl
  rw[this,wrapU32 (by omega) (by omega)]
 rw[c4 q hq,ws,ws]
 refine wo hrn ?_
 rw[c4 r (by omega),ws]
 exact h
theorem m_nan{k:IntKind}{n:Int}{Q:SV→Prop}(h:Q (.bool false)):wpO (pW cT 229 [.int k n]) Q:=by
 refine po rfl (F229_ok (k:=fun v S=>wpO (frz S dS v) Q) ?_)
 unfold F229
 simp only[b_neq,ws]
 rw[decide_eq_false (by simp)]
 exact h
theorem m_nan2{k:IntKind}{n:Int}{Q:SV→Prop}(h:Q (.bool false)):wpO (pW cT 279 [.int k n]) Q:=by
 refine po rfl (F279_ok (k:=fun v S=>wpO (frz S dS v) Q) ?_)
 unfold F279
 simp only[b_neq,ws]
 rw[decide_eq_false (by simp)]
 exact h
def cmpI(a b:Int):Int:=if a<b then -1 else if b<a then 1 else 0
theorem m_cmp{k:IntKind}{a b:Int}{Q:SV→Prop}(h:Q (.int .i64 (cmpI a b))):wpO (pW cT 161 [.int k a,.int k b]) Q:=by
 refine po rfl (F161_ok (k:=fun v S=>wpO (frz S dS v) Q) ?_)
 unfold F161
 refine cpu rfl rfl (m_nan ?_)
 refine cpu rfl rfl (m_nan ?_)
 simp only[cf_,b_lss,b_gtr,ws]
 unfold cmpI at h
 refine condP_dec (fun h1=>?_) (fun h1=>?_)
 ·rw[if_pos h1]at h;exact h
 ·rw[if_neg h1]at h
  refine condP_dec (fun h2=>?_) (fun h2=>?_)
  ·rw[if_pos h2]at h;exact h
  ·rw[if_neg h2]at h;exact h
theorem m_cmp2{k:IntKind}{a b:Int}{Q:SV→Prop}(h:Q (.int .i64 (cmpI a b))):wpO (pW cT 230 [.int k a,.int k b]) Q:=by
 refine po rfl (F230_ok (k:=fun v S=>wpO (frz S dS v) Q) ?_)
 unfold F230
 refine cpu rfl rfl (m_nan2 ?_)
 refine cpu rfl rfl (m_nan2 ?_)
 simp only[cf_,b_lss,b_gtr,ws]
 unfold cmpI at h
 refine condP_dec (fun h1=>?_) (fun h1=>?_)
 ·rw[if_pos h1]at h;exact h
 ·rw[if_neg h1]at h
  refine condP_dec (fun h2=>?_) (fun h2=>?_)
  ·rw[if_pos h2]at h;exact h
  ·rw[if_neg h2]at h;exact h
theorem shr64_32{u:Option TyI}{a:Nat}:bnS .shr u (.int .u64 (a:Int)) (.int .u64 32)=some (.int .u64 ((a/4294967296:Nat):Int)):=shr32
theorem m_natural{n:Nat}{Q:SV→Prop}(hn:n<18446744073709551616)(h:∀c',(c'=.nil→n=0)→Q (.vsl (u32s (encN n)) c')):wpO (pW cT 158 [.int .u64 (n:Int)]) Q:=by
 refine po rfl (F158_ok (k:=fun v S=>wpO (frz S dS v) Q) ?_)
 unfold F158
 refine wo (conv_int rfl rfl) ?_
 refine wo shr64_32 ?_
 refine wo (conv_int rfl rfl) ?_
 have e1:wrS .u32 (n:Int)=((n%4294967296:Nat):Int):=by rw[wrapU32m];omega
 have e2:wrS .u32 ((n/4294967296:Nat):Int)=((n/4294967296:Nat):Int):=by rw[wrapU32 (by omega) (by omega)]
 rw[e1,e2]
 refine wo rfl ?_
 refine call_row (es:=u32s [n%4294967296,n/4294967296]) rfl rfl rfl u32s_pure ?_
 refine c117 (Bd.cons (by omega) (Bd.cons (by omega) Bd.nil)) (by simp) capM fun c' hc'=>?_
 have hv:val [n%4294967296,n/4294967296]=n:=by simp[val];omega
 rw[hv]at hc' ⊢
 exact h c' hc'
end Go.Proofs
namespace Go.Proofs
open Go.Sh
def tabB:ByteArray:=(ByteArray.mk #[0,1,2,2,3,3,3,3,4,4,4,4,4,4,4,4,5,5,5,5,5,5,5,5,5,5,5,5,5,5,5,5,6,6,6,6,6,6,6,6,6,6,6,6,6,6,6,6,6,6,6,6,6,6,6,6,6,6,6,6,6,6,6,6,7,7,7,7,7,7,7,7,7,7,7,7,7,7,7,7,7,7,7,7,7,7,7,7,7,7,7,7,7,7,7,7,7,7,7,7,7,7,7,7,7,7,7,7,7,7,7,7,7,7,7,7,7,7,7,7,7,7,7,7,7,7,7,7,8,8,8,8,8,8,8,8,8,8,8,8,8,8,8,8,8,8,8,8,8,8,8,8,8,8,8,8,8,8,8,8,8,8,8,8,8,8,8,8,8,8,8,8,8,8,8,8,8,8,8,8,8,8,8,8,8,8,8,8,8,8,8,8,8,8,8,8,8,8,8,8,8,8,8,8,8,8,8,8,8,8,8,8,8,8,8,8,8,8,8,8,8,8,8,8,8,8,8,8,8,8,8,8,8,8,8,8,8,8,8,8,8,8,8,8,8,8,8,8,8,8,8,8,8,8,8,8])
theorem tab_dec:∀x,x<256→((tabB[x]?.map UInt8.toNat).getD 99≤8∧x<2^((tabB[x]?.map UInt8.toNat).getD 99)∧(x≠0→2^((tabB[x]?.map UInt8.toNat).getD 99)≤2*x)):=by decide +kernel
theorem tab_at{x:Nat}(h:x<256):∃t:Nat,t≤8∧x<2^t∧(x≠0→2^t≤2*x)∧indexS cT y9 (.str (ByteArray.mk #[0,1,2,2,3,3,3,3,4,4,4,4,4,4,4,4,5,5,5,5,5,5,5,5,5,5,5,5,5,5,5,5,6,6,6,6,6,6,6,6,6,6,6,6,6,6,6,6,6,6,6,6,6,6,6,6,6,6,6,6,6,6,6,6,7,7,7,7,7,7,7,7,7,7,7,7,7,7,7,7,7,7,7,7,7,7,7,7,7,7,7,7,7,7,7,7,7,7,7,7,7,7,7,7,7,7,7,7,7,7,7,7,7,7,7,7,7,7,7,7,7,7,7,7,7,7,7,7,8,8,8,8,8,8,8,8,8,8,8,8,8,8,8,8,8,8,8,8,8,8,8,8,8,8,8,8,8,8,8,8,8,8,8,8,8,8,8,8,8,8,8,8,8,8,8,8,8,8,8,8,8,8,8,8,8,8,8,8,8,8,8,8,8,8,8,8,8,8,8,8,8,8,8,8,8,8,8,8,8,8,8,8,8,8,8,8,8,8,8,8,8,8,8,8,8,8,8,8,8,8,8,8,8,8,8,8,8,8,8,8,8,8,8,8,8,8,8,8,8,8,8,8,8,8,8,8])) (.int .u8 (x:Int))=some (.int .u8 (t:Int)):=by
 obtain⟨h1,h2,h3⟩:=tab_dec x h
 cases e:tabB[x]? with
 |none=>rw[e]at h1;simp at h1
 |some b=>
  rw[e]at h1 h2 h3
  simp only[Option.map_some,Option.getD_some]at h1 h2 h3
  refine⟨b.toNat,h1,h2,h3,?_⟩
  show(natS (.int .u8 (x:Int))).bind (fun n=>(tabB[n]?).map fun b=>SV.int .u8 b.toNat)=_
  simp only[natS,Int.natCast_nonneg,if_true,Option.bind_some,Int.toNat_natCast,e,Option.map_some]
theorem wrapU8{n:Nat}(h:n<256):wrS .u8 (n:Int)=(n:Int):=by
 show(n:Int)%256=n;omega
theorem conv5{k:IntKind}{x:Nat}(h:x<256):convS y5 (.int k (x:Int))=some (.int .u8 (x:Int)):=by
 have:convS y5 (.int k (x:Int))=some (.int .u8 (wrS .u8 (x:Int))):=conv_int rfl rfl
 rw[this,wrapU8 h]
theorem conv3{k:IntKind}{x:Nat}(h:x<256):convS y3 (.int k (x:Int))=some (.int .i64 (x:Int)):=by
 have:convS y3 (.int k (x:Int))=some (.int .i64 (wrS .i64 (x:Int))):=conv_int rfl rfl
 rw[this,wrap64 (by omega) (by omega)]
theorem shrN{u:Option TyI}{k:IntKind}{a i P:Nat}(hP:2^i=P)(hi:i≤k.bits)(ha:wrS k ((a/P:Nat):Int)=((a/P:Nat):Int)):bnS .shr u (.int k (a:Int)) (.int .u64 (i:Int))=some (.int k ((a/P:Nat):Int)):=by
 have h:=b_shr (u:=u) (k:=k) (k':=.u64) (a:=(a:Int)) (n:=i) hi
 refine Eq.trans h ?_
 have e:(2:Int)^i=((P:Nat):Int):=by rw[←hP];simp
 rw[e,Int.fdiv_eq_ediv_of_nonneg _ (by omega)]
 congr 2
theorem m_len32{v:Nat}{Q:SV→Prop}(hv:v<4294967296)(h:∀L:Nat,L≤32→v<2^L→(v≠0→2^L≤2*v)→Q (.int .i64 (L:Int))):wpO (pW cT 188 [.int .u32 (v:Int)]) Q:=by
 refine po rfl (F188_ok (k:=fun v S=>wpO (frz S dS v) Q) ?_)
 have tail:∀(e:En) (x b:Nat),x<256→b≤24→e 0=.int .u32 (x:Int)→e 2=.int .i64 (b:Int)→(∀t,x<2^t→(x≠0→2^t≤2*x)→t≤8→v<2^(b+t)∧(v≠0→2^(b+t)≤2*v))→K188_0 (fun v S=>wpO (frz S dS v) Q) .nrm e []:=by
  intro e x b hx hb h0 h2 ht
  refine K188_0n_ok ?_
  unfold TK188_0n
  obtain⟨t,t1,t2,t3,t4⟩:=tab_at hx
  rw[h0,h2,conv5 hx,ws]
  refine wo t4 ?_
  rw[conv3 (show t<256 by omega),ws]
  simp only[b_add,ws]
  obtain⟨q1,q2⟩:=ht t t2 t3 t1
  rw[addI (by omega)]
  exact h (b+t) (by omega) q1 q2
 unfold F188
 simp only[b_geq,ws]
 refine condP_dec (fun h1=>?_) (fun h1=>?_)
 ·refine wo (shrN (i:=16) (P:=65536) rfl (by decide) (by rw[wrapU32 (by omega) (by omega)])) ?_
  simp only[b_geq,ws]
  refine condP_dec (fun h2=>?_) (fun h2=>?_)
  ·refine wo (shrN (i:=8) (P:=256) rfl (by decide) (by rw[wrapU32 (by omega) (by omega)])) ?_
   refine wo rfl ?_
   refine tail _ (v/65536/256) 24 (by omega) (by omega) rfl rfl (fun t a1 a2 a3=>?_)
   rw[Nat.pow_add,show(2:Nat)^24=16777216 from rfl]
   generalize 2^t=T at *
   omega
  ·refine tail _ (v/65536) 16 (by omega) (by omega) rfl rfl (fun t a1 a2 a3=>?_)
   rw[Nat.pow_add,show(2:Nat)^16=65536 from rfl]
   generalize 2^t=T at *
   omega
 ·refine condP_dec (fun h2=>?_) (fun h2=>?_)
  ·refine wo (shrN (i:=8) (P:=256) rfl (by decide) (by rw[wrapU32 (by omega) (by omega)])) ?_
   refine wo rfl ?_
   refine tail _ (v/256) 8 (by omega) (by omega) rfl rfl (fun t a1 a2 a3=>?_)
   rw[Nat.pow_add,show(2:Nat)^8=256 from rfl]
   generalize 2^t=T at *
   omega
  ·refine tail _ v 0 (by omega) (by omega) rfl rfl (fun t a1 a2 a3=>?_)
   rw[Nat.zero_add]
   exact⟨a1,a2⟩
theorem m_lz{v:Nat}{Q:SV→Prop}(hv:v<4294967296)(hv0:v≠0)(h:∀s:Nat,s≤31→v*2^s<4294967296→2147483648≤v*2^s→Q (.int .i64 (s:Int))):wpO (pW cT 281 [.int .u32 (v:Int)]) Q:=by
 refine po rfl (F281_ok (k:=fun v S=>wpO (frz S dS v) Q) ?_)
 unfold F281
 refine cpu rfl rfl (m_len32 hv fun L h1 h2 h3=>?_)
 simp only[b_sub,ws]
 have hL0:0<L:=by
  rcases Nat.eq_zero_or_pos L with e|e
  ·subst e;simp at h2;omega
  ·exact e
 rw[show wrS .i64 (32-(L:Int))=((32-L:Nat):Int)by rw[wrap64 (by omega) (by omega)];omega]
 have hp:2^L*2^(32-L)=4294967296:=by rw[←Nat.pow_add,show L+(32-L)=32 by omega]
 have hpos:0<2^(32-L):=Nat.pow_pos (by omega)
 have h4:=Nat.mul_lt_mul_of_pos_right h2 hpos
 have h5:=Nat.mul_le_mul_right (2^(32-L)) (h3 hv0)
 refine h (32-L) (by omega) (by omega) ?_
 rw[hp,Nat.mul_assoc]at h5
 omega
theorem m_len{v:Nat}{Q:SV→Prop}(hv:v<256)(h:∀L:Nat,L≤8→v<2^L→(v≠0→2^L≤2*v)→Q (.int .i64 (L:Int))){k:IntKind}:wpO (pW cT 189 [.int .u64 (v:Int)]) Q:=by
 refine po rfl (F189_ok (k:=fun v S=>wpO (frz S dS v) Q) ?_)
 unfold F189
 simp only[b_geq,ws]
 rw[decide_eq_false (by omega),cf_]
 unfold TK189_0n
 show wpO (bnS .geq (some y25) (.int .u64 (v:Int)) (.int .u64 65536)) _
 simp only[b_geq,ws]
 rw[decide_eq_false (by omega),cf_]
 show wpO (bnS .geq (some y25) (.int .u64 (v:Int)) (.int .u64 256)) _
 simp only[b_geq,ws]
 rw[decide_eq_false (by omega),cf_]
 unfold TK189_1n
 show wpO (convS y5 (.int .u64 (v:Int))) _
 obtain⟨t,t1,t2,t3,t4⟩:=tab_at hv
 rw[conv5 hv,ws]
 refine wo t4 ?_
 rw[conv3 (show t<256 by omega),ws]
 refine wo b_add ?_
 rw[show wrS .i64 ((0:Int)+(t:Int))=(t:Int)by rw[wrap64 (by omega) (by omega)];omega]
 exact h t t1 t2 t3
theorem sb_id{d y b x w i P V1 V2 V3:Nat}(h:d+y+b=x+4294967296*w)(hv:V1+V2=V3+P*b):(V1+P*d)+(V2+P*y)=(V3+P*x)+P*4294967296*w:=by
 have:P*(d+y+b)=P*(x+4294967296*w):=by rw[h]
 grind
theorem nsub_loop:∀(m:Nat) (a b o:List Nat) (c d:VC) (n:Nat) (w:Nat) (e:En) (k:X→En→Zt→Prop),o.length+m=n→a.length=n→Bd a→Bd b→Bd o→w≤1→n<70368744177664→
  e 0=.vsl (u32s a) c→e 1=.vsl (u32s b) d→e 5=.osl 0 1 0 n (some n)→e 6=.int .u32 (w:Int)→e 12=.int .i64 (n:Int)→e 13=.int .i64 (o.length:Int)→
  val o+val (b.take o.length)=val (a.take o.length)+4294967296^o.length*w→
  (∀(o':List Nat) (w':Nat) (e':En),o'.length=n→Bd o'→w'≤1→val o'+val (b.take n)=val (a.take n)+4294967296^n*w'→e' 5=.osl 0 1 0 n (some n)→k (.exit 0) e' [.cells (u32s o') true])→
  DenP cT 34 (.loop L172_0) e [.cells (u32s (o++List.replicate m 0)) true] k:=by
 intro m
 induction m with
 |zero=>
  intro a b o c d n w e k hn hal ha hb ho hw hs h0 h1 h5 h6 h12 h13 hv hk
  refine L172_0_ok ?_
  unfold TL172_0
  simp only[h12,h13,b_lss,ws]
  refine condP_dec (fun h=>by omega) (fun _=>?_)
  have hl:o.length=n:=by omega
  rw[hl]at hv
  rw[List.replicate_zero,List.append_nil]
  exact hk o w _ hl ho hw hv h5
 |succ m ih=>
  intro a b o c d n w e k hn hal ha hb ho hw hs h0 h1 h5 h6 h12 h13 hv hk
  refine L172_0_ok ?_
  unfold TL172_0
  simp only[h0,h1,h5,h6,h12,h13,b_lss,ws]
  refine condP_dec (fun _=>?_) (fun h=>absurd (by omega) h)
  obtain⟨x,hax⟩:∃x,a[o.length]?=some x:=⟨a[o.length]'(by omega),by simp⟩
  have hx:=ha.get hax
  have hvt:=val_take_succ a o.length
  rw[hax]at hvt
  simp only[Option.getD_some]at hvt
  simp only[idx115 hax,load108,ws]
  refine cpu rfl rfl (c120 ?_)
  have hy:=hb.getD o.length
  have hvu:=val_take_succ b o.length
  generalize b[o.length]?.getD 0=y at hy hvu ⊢
  refine cpu rfl rfl (m_sub32 hx hy hw fun dd ww hd hw2 hid=>?_)
  refine wo rfl (wo rfl ?_)
  refine wo (idx_osl (j:=y23) rfl rfl (by decide) (by omega) rfl) ?_
  rw[Nat.zero_add]
  refine wo (store_row (es:=u32s (o++List.replicate (m+1) 0)) (e:=.int .u32 0) rfl (by rw[show(0:Int)=((0:Nat):Int) from rfl];exact u32s_get (by rw[List.getElem?_append_right (Nat.le_refl _)];simp)) rfl rfl rfl) ?_
  rw[u32s_set,row_set]
  simp only[b_add,ws]
  rw[succI (by omega)]
  have hlen:(o++[dd]).length=o.length+1:=by simp
  refine ih a b (o++[dd]) c d n ww _ k (by rw[hlen];omega) hal ha hb (ho.snoc hd) hw2 hs h0 h1 h5 rfl h12 (by rw[hlen];rfl) ?_ hk
  rw[hlen,val_snoc,hvt,hvu,Nat.pow_succ]
  exact sb_id (i:=0) hid hv
theorem m_nsub{a b:Nat}{c d:VC}{Q:SV→Prop}(hab:b≤a)(ha:(encN a).length<17592186044415)(h:∀c',(c'=.nil→a-b=0)→Q (.vsl (u32s (encN (a-b))) c')):wpO (pW cT 172 [.vsl (u32s (encN a)) c,.vsl (u32s (encN b)) d]) Q:=by
 refine po rfl (F172_ok (k:=fun v S=>wpO (frz S dS v) Q) ?_)
 unfold F172
 simp only[len115,ws]
 refine wo (mksl_ok (j:=y23) (by decide) rfl (by unfold roomS;omega) (by unfold roomS;show(encN a).length*4≤_;omega)) ?_
 refine wo (len_osl rfl) ?_
 show DenP cT 34 (.loop L172_0) _ [.cells (List.replicate (encN a).length (SV.int .u32 0)) true] _
 rw[u32s_zeros]
 refine nsub_loop (encN a).length (encN a) (encN b) [] c d (encN a).length 0 _ _ (by simp) rfl (encN_bd a) (encN_bd b) Bd.nil (by omega) (by omega) rfl rfl rfl rfl rfl rfl (by simp[val]) ?_
 intro o' w' e' hl hbo hw hv h5
 have hmono:=enc_len_mono hab
 rw[List.take_length,List.take_of_length_le (by omega),encN_val,encN_val]at hv
 have hlt:=val_lt hbo
 rw[hl]at hlt
 have hw0:w'=0:=by
  rcases Nat.eq_zero_or_pos w' with h0|h0
  ·exact h0
  ·have h1:w'=1:=by omega
   rw[h1,Nat.mul_one]at hv
   exfalso;omega
 rw[hw0,Nat.mul_zero,Nat.add_zero]at hv
 have hv2:val o'=a-b:=by omega
 clear hlt hv
 refine K172_0e0_ok ?_
 unfold TK172_0e0
 rw[h5]
 refine call_row (es:=u32s o') rfl rfl (by simp[hl]) u32s_pure ?_
 refine c117 hbo (by omega) capM fun c' hc'=>?_
 rw[hv2]at hc' ⊢
 exact h c' hc'
theorem cmpI_lt{a b:Int}(h:a<b):cmpI a b=-1:=by unfold cmpI;rw[if_pos h]
theorem cmpI_gt{a b:Int}(h:b<a):cmpI a b=1:=by unfold cmpI;rw[if_neg (by omega),if_pos h]
theorem ncmp_loop:∀(m:Nat) (l r:List Nat) (c d:VC) (i:Nat) (e:En) (k:X→En→Zt→Prop),e 0=.vsl (u32s l) c→e 1=.vsl (u32s r) d→i+m=l.length→e 18=.int .i64 (l.length:Int)→e 19=.int .i64 (i:Int)→l.length=r.length→l.length<9223372036854775807→Bd l→Bd r→
  (cmp3 (val (l.take m)) (val (r.take m))≠0→∀(e':En),e' 4=.int .i64 (cmp3 (val (l.take m)) (val (r.take m)))→k .ret e' [])→(cmp3 (val (l.take m)) (val (r.take m))=0→∀(e':En),k (.exit 0) e' [])→
  DenP cT 46 (.loop L162_0) e [] k:=by
 intro m
 induction m with
 |zero=>
  intro l r c d i e k h0 h1 him h18 h19 hlr hs hbl hbr hk1 hk2
  refine L162_0_ok ?_
  unfold TL162_0
  simp only[h18,h19,b_lss,ws]
  rw[decide_eq_false (by omega),cf_]
  exact hk2 rfl _
 |succ m ih=>
  intro l r c d i e k h0 h1 him h18 h19 hlr hs hbl hbr hk1 hk2
  obtain⟨x,hx⟩:∃d,l[m]?=some d:=⟨l[m]'(by omega),by simp⟩
  obtain⟨y,hy⟩:∃d,r[m]?=some d:=⟨r[m]'(by omega),by simp⟩
  refine L162_0_ok ?_
  unfold TL162_0
  simp only[h0,h1,h18,h19,len115,b_lss,b_sub,ws]
  rw[decide_eq_true (by omega),condP_t]
  have e1:wrS .i64 (wrS .i64 ((l.length:Int)-1)-(i:Int))=(m:Int):=by
   rw[wrap64 (n:=(l.length:Int)-1) (by omega) (by omega),wrap64 (by omega) (by omega)];omega
  rw[e1]
  clear e1
  simp only[idx115 hx,idx115 hy,load108,ws,b_neq]
  refine condP_dec (fun hne=>?_) (fun heq=>?_)
  ·refine cpu rfl rfl (m_cmp2 ?_)
   by_cases hlt:x<y
   ·have hv:=val_take_lt hbl hbr hx hy hlt
    have hc:cmp3 (val (l.take (m+1))) (val (r.take (m+1)))=-1:=by unfold cmp3;rw[if_pos hv]
    refine hk1 (by rw[hc];decide) _ ?_
    rw[hc,cmpI_lt (by omega)];rfl
   ·have hgt:y<x:=by omega
    have hv:=val_take_lt hbr hbl hy hx hgt
    have hc:cmp3 (val (l.take (m+1))) (val (r.take (m+1)))=1:=by unfold cmp3;rw[if_neg (by omega),if_pos hv]
    refine hk1 (by rw[hc];decide) _ ?_
    rw[hc,cmpI_gt (by omega)];rfl
  ·have hxy:x=y:=by
    have:¬(x:Int)≠(y:Int):=heq
    omega
   have hc:cmp3 (val (l.take (m+1))) (val (r.take (m+1)))=cmp3 (val (l.take m)) (val (r.take m)):=by
    rw[val_take_succ,val_take_succ,hx,hy,hxy]
    unfold cmp3
    simp
   rw[hc]at hk1 hk2
   simp only[b_add,ws]
   rw[succI (by omega)]
   exact ih l r c d (i+1) _ k h0 h1 (by omega) h18 rfl hlr hs hbl hbr hk1 hk2
theorem m_ncmp{a b:Nat}{c d:VC}{Q:SV→Prop}(ha:(encN a).length<9223372036854775807)(hb:(encN b).length<9223372036854775807)(h:Q (.int .i64 (cmp3 a b))):wpO (pW cT 162 [.vsl (u32s (encN a)) c,.vsl (u32s (encN b)) d]) Q:=by
 refine po rfl (F162_ok (k:=fun v S=>wpO (frz S dS v) Q) ?_)
 unfold F162
 simp only[len115,b_neq,ws]
 by_cases hl:(encN a).length=(encN b).length
 ·rw[decide_eq_false (by simp[hl]),cf_]
  refine ncmp_loop (encN a).length (encN a) (encN b) c d 0 _ _ rfl rfl (by omega) rfl rfl hl ha (encN_bd a) (encN_bd b) ?_ ?_
  ·have t2:(encN b).take (encN a).length=encN b:=by rw[hl];exact List.take_length
   rw[List.take_length,t2,encN_val,encN_val]
   intro hne e' h4
   refine K162_0r_ok ?_
   unfold TK162_0r
   rw[h4];exact h
  ·have t2:(encN b).take (encN a).length=encN b:=by rw[hl];exact List.take_length
   rw[List.take_length,t2,encN_val,encN_val]
   intro hz e'
   refine K162_0e0_ok ?_
   unfold TK162_0e0
   rw[hz]at h;exact h
 ·rw[decide_eq_true (by omega),condP_t]
  refine cpu rfl rfl (m_cmp ?_)
  by_cases hlt:(encN a).length<(encN b).length
  ·have:=enc_len_lt hlt
   rw[cmpI_lt (by omega)]
   have hc:cmp3 a b=-1:=by unfold cmp3;rw[if_pos this]
   rw[hc]at h;exact h
  ·have:=enc_len_lt (a:=b) (b:=a) (by omega)
   rw[cmpI_gt (by omega)]
   have hc:cmp3 a b=1:=by unfold cmp3;rw[if_neg (by omega),if_pos this]
   rw[hc]at h;exact h
theorem wd_step{V d Vh r x:Nat}(h:V=d*Vh+r):x+4294967296*V=d*((r*4294967296+x)/d+4294967296*Vh)+(r*4294967296+x)%d:=by
 have hdm:=Nat.div_add_mod (r*4294967296+x) d
 subst h
 generalize (r*4294967296+x)/d=q at *
 generalize (r*4294967296+x)%d=s at *
 grind
theorem zset{m q:Nat}{oh:List Nat}:(List.replicate (m+1) 0++oh).set m q=List.replicate m 0++(q::oh):=by
 rw[List.replicate_succ',List.append_assoc,List.set_append_right _ _ (by simp)]
 simp
theorem word_loop:∀(m:Nat) (x oh:List Nat) (c:VC) (d rest n i:Nat) (e:En) (k:X→En→Zt→Prop),x.length=n→oh.length+m=n→i+m=n→n<70368744177664→Bd x→Bd oh→0<d→d<4294967296→rest<d→val (x.drop m)=d*val oh+rest→
  e 0=.vsl (u32s x) c→e 1=.int .u32 (d:Int)→e 6=.osl 0 1 0 n (some n)→e 7=.int .u32 (rest:Int)→e 14=.int .i64 (n:Int)→e 15=.int .i64 (i:Int)→
  (∀(oh':List Nat) (rest':Nat) (e':En),oh'.length=n→Bd oh'→rest'<d→val x=d*val oh'+rest'→e' 6=.osl 0 1 0 n (some n)→e' 7=.int .u32 (rest':Int)→k (.exit 0) e' [.cells (u32s oh') true])→
  DenP cT 40 (.loop L280_0) e [.cells (u32s (List.replicate m 0++oh)) true] k:=by
 intro m
 induction m with
 |zero=>
  intro x oh c d rest n i e k hx hoh hi hn bx boh hd hd2 hr hv h0 h1 h6 h7 h14 h15 hk
  refine L280_0_ok ?_
  unfold TL280_0
  simp only[h14,h15,b_lss,ws]
  rw[decide_eq_false (by omega),cf_]
  rw[List.drop_zero]at hv
  rw[List.replicate_zero,List.nil_append]
  exact hk oh rest _ (by omega) boh hr hv h6 h7
 |succ m ih=>
  intro x oh c d rest n i e k hx hoh hi hn bx boh hd hd2 hr hv h0 h1 h6 h7 h14 h15 hk
  obtain⟨y,hy⟩:∃d,x[m]?=some d:=⟨x[m]'(by omega),by simp⟩
  have hyb:=bx.get hy
  refine L280_0_ok ?_
  unfold TL280_0
  simp only[h0,h1,h6,h7,h14,h15,len115,b_lss,b_sub,ws]
  rw[decide_eq_true (by omega),condP_t]
  have e1:wrS .i64 (wrS .i64 ((x.length:Int)-1)-(i:Int))=(m:Int):=by
   rw[wrap64 (n:=(x.length:Int)-1) (by omega) (by omega),wrap64 (by omega) (by omega)];omega
  rw[e1]
  clear e1
  simp only[idx115 hy,load108,ws]
  refine cpu rfl rfl (m_div32 hr hyb hd2 ?_)
  refine wo rfl (wo rfl ?_)
  have hdrop:val (x.drop m)=y+4294967296*val (x.drop (m+1)):=by
   have hm:m<x.length:=by omega
   rw[List.drop_eq_getElem_cons hm,val]
   have:x[m]=y:=by rw[List.getElem?_eq_getElem hm]at hy;exact Option.some.inj hy
   rw[this]
  have hstep:=wd_step (x:=y) hv
  rw[←hdrop]at hstep
  have hrl:=Nat.mod_lt (rest*4294967296+y) hd
  have hql:(rest*4294967296+y)/d<4294967296:=by
   refine Nat.div_lt_of_lt_mul ?_
   have:=Nat.mul_le_mul_right 4294967296 (show rest+1≤d by omega)
   omega
  generalize (rest*4294967296+y)/d=q at *
  generalize (rest*4294967296+y)%d=r2 at *
  clear hv hdrop
  refine wo (idx_osl (j:=y23) rfl rfl (by decide) (by omega) rfl) ?_
  rw[Nat.zero_add]
  refine wo (store_row (es:=u32s (List.replicate (m+1) 0++oh)) (e:=.int .u32 0) rfl (by rw[show(0:Int)=((0:Nat):Int) from rfl];exact u32s_get (by rw[List.getElem?_append_left (by simp)];simp)) rfl rfl rfl) ?_
  rw[u32s_set,zset]
  simp only[b_add,ws]
  rw[succI (by omega)]
  refine ih x (q::oh) c d r2 n (i+1) _ k hx (by simp;omega) (by omega) hn bx (Bd.cons hql boh) hd hd2 hrl ?_ h0 h1 h6 rfl h14 rfl hk
  rw[val];exact hstep
theorem m_word{a d:Nat}{c:VC}{Q:SV→Prop}(hd:0<d)(hd2:d<4294967296)(ha:(encN a).length<17592186044415)(h:∀c',(c'=.nil→a/d=0)→Q (.tup [.vsl (u32s (encN (a/d))) c',.int .u32 ((a%d:Nat):Int)])):wpO (pW cT 280 [.vsl (u32s (encN a)) c,.int .u32 (d:Int)]) Q:=by
 refine po rfl (F280_ok (k:=fun v S=>wpO (frz S dS v) Q) ?_)
 unfold F280
 simp only[len115,ws]
 refine wo (mksl_ok (j:=y23) (by decide) rfl (by unfold roomS;omega) (by unfold roomS;show(encN a).length*4≤_;omega)) ?_
 show DenP cT 40 (.loop L280_0) _ [.cells (List.replicate (encN a).length (SV.int .u32 0)) true] _
 rw[u32s_zeros]
 have e0:List.replicate (encN a).length 0=List.replicate (encN a).length 0++[]:=by simp
 rw[e0]
 refine word_loop (encN a).length (encN a) [] c d 0 (encN a).length 0 _ _ rfl (by simp) (by omega) (by omega) (encN_bd a) Bd.nil hd hd2 hd (by simp[val]) rfl rfl rfl rfl rfl rfl ?_
 intro o' r' e' hl hbo hr hv h6 h7
 rw[encN_val]at hv
 refine K280_0e0_ok ?_
 unfold TK280_0e0
 rw[h6,h7]
 have hq:val o'=a/d:=by rw[hv,Nat.mul_add_div hd,Nat.div_eq_of_lt hr];rfl
 have hr2:r'=a%d:=by rw[hv,Nat.mul_add_mod,Nat.mod_eq_of_lt hr]
 clear hv
 refine call_row (es:=u32s o') rfl rfl (by simp[hl]) u32s_pure ?_
 refine c117 hbo (by omega) capM fun c' hc'=>?_
 rw[hq]at hc' ⊢
 rw[hr2]
 exact h c' hc'
end Go.Proofs
