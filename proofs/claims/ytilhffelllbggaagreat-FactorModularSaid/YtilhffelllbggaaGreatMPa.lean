/-
  Numbers modulo a prime; the reference's polynomials modulo a prime.
-/
import Derived.Test.YtilhffelllbggaaGreatMG
import Derived.Test.YtilhffelllbggaaGreatMKa
import Derived.Test.YtilhffelllbggaaGreatMLa
set_option linter.unusedVariables false
set_option linter.unusedSimpArgs false
set_option maxRecDepth 10000
namespace Go.Sh
theorem mulU{a b:Nat}(ha:a<4294967296)(hb:b<4294967296):wrS .u64 ((a:Int)*(b:Int))=((a*b:Nat):Int):=by
 have h:a*b≤4294967295*4294967295:=Nat.mul_le_mul (by omega) (by omega)
 rw[←Int.natCast_mul]
 generalize a*b=t at h ⊢
 rw[wrapU64 (by omega) (by omega)]
theorem addU{a b:Nat}(h:a+b<18446744073709551616):wrS .u64 ((a:Int)+(b:Int))=((a+b:Nat):Int):=by
 rw[wrapU64 (by omega) (by omega)];omega
theorem subU{a b:Nat}(h:b≤a)(h2:a<18446744073709551616):wrS .u64 ((a:Int)-(b:Int))=((a-b:Nat):Int):=by
 rw[wrapU64 (by omega) (by omega)];omega
theorem b_remN{u:Option TyI}{k:IntKind}{a p:Nat}(hp:0<p):bnS .rem u (.int k (a:Int)) (.int k (p:Int))=some (.int k ((a%p:Nat):Int)):=by
 rw[b_rem (by omega),Int.tmod_eq_emod_of_nonneg (by omega)]
 congr 2
theorem b_quoN{u:Option TyI}{a p:Nat}(hp:0<p)(ha:a<18446744073709551616):bnS .quo u (.int .u64 (a:Int)) (.int .u64 (p:Int))=some (.int .u64 ((a/p:Nat):Int)):=by
 rw[b_quo (by omega),Int.tdiv_eq_ediv_of_nonneg (by omega)]
 have h:=Nat.div_le_self a p
 have e:(a:Int)/(p:Int)=((a/p:Nat):Int):=by simp
 rw[e]
 generalize a/p=t at h ⊢
 rw[wrapU64 (by omega) (by omega)]
theorem b_and1{u:Option TyI}{a:Nat}:bnS .and u (.int .u64 (a:Int)) (.int .u64 1)=some (.int .u64 ((a%2:Nat):Int)):=by
 simp only[bnS,isShift,arithS,Bool.false_eq_true,if_false,if_true]
 have e:(BitVec.ofInt IntKind.u64.bits (a:Int) &&& BitVec.ofInt IntKind.u64.bits 1).toNat=a%2:=by
  have e1:BitVec.ofInt 64 (a:Int)=BitVec.ofNat 64 a:=by simp
  have e2:BitVec.ofInt 64 (1:Int)=BitVec.ofNat 64 1:=rfl
  show(BitVec.ofInt 64 (a:Int) &&& BitVec.ofInt 64 1).toNat=a%2
  rw[e1,e2,BitVec.toNat_and,BitVec.toNat_ofNat,BitVec.toNat_ofNat]
  show(a%2^64) &&& 1=a%2
  rw[Nat.and_one_is_mod]
  omega
 rw[e,wrapU64 (by omega) (by omega)]
theorem b_shr1{u:Option TyI}{a:Nat}(h:a<18446744073709551616):bnS .shr u (.int .u64 (a:Int)) (.int .u64 1)=some (.int .u64 ((a/2:Nat):Int)):=by
 have h:=b_shr (u:=u) (k:=.u64) (k':=.u64) (a:=(a:Int)) (n:=1) (by decide)
 refine Eq.trans h ?_
 rw[show(2:Int)^1=2 from rfl,Int.fdiv_eq_ediv_of_nonneg _ (by omega)]
 congr 2
def u64s(l:List Nat):List SV:=l.map fun (d:Nat)=>SV.int .u64 (d:Int)
@[simp] theorem u64s_len{l:List Nat}:(u64s l).length=l.length:=by simp[u64s]
theorem u64s_get{l:List Nat}{n:Nat}{d:Nat}(h:l[n]?=some d):(u64s l)[n]?=some (.int .u64 (d:Int)):=by simp[u64s,h]
theorem u64s_take{l:List Nat}{n:Nat}:(u64s l).take n=u64s (l.take n):=by simp[u64s,List.map_take]
theorem u64s_append{l m:List Nat}:u64s (l++m)=u64s l++u64s m:=by simp[u64s]
theorem u64s_set{l:List Nat}{n d:Nat}:(u64s l).set n (.int .u64 (d:Int))=u64s (l.set n d):=by simp[u64s,List.map_set]
theorem u64s_zeros{n:Nat}:List.replicate n (SV.int .u64 0)=u64s (List.replicate n 0):=by simp[u64s]
theorem u64s_pure{l:List Nat}:∀e∈u64s l,pureS e=true:=by
 intro e he
 simp only[u64s,List.mem_map]at he
 obtain⟨d,_,rfl⟩:=he
 rfl
theorem u64s_sizes{l:List Nat}:sizesOk 1 (u64s l)=true:=by
 simp only[sizesOk,u64s,List.all_map,List.all_eq_true]
 intro d _
 rfl
theorem at_app{S T:Zt}{id:Nat}{r:Row}(h:S[id]?=some r):(S++T)[id]?=some r:=by
 have:=(List.getElem?_eq_some_iff.1 h).1
 rw[List.getElem?_append_left this];exact h
theorem at_new{S:Zt}{r:Row}:(S++[r])[S.length]?=some r:=by rw[List.getElem?_append_right (Nat.le_refl _)];simp
theorem at_ne{S:Zt}{id j:Nat}{r x:Row}(h:S[id]?=some r)(hne:j≠id):(S.set j x)[id]?=some r:=by rw[List.getElem?_set,if_neg hne];exact h
theorem at_eq{S:Zt}{id:Nat}{r x:Row}(h:S[id]?=some r):(S.set id x)[id]?=some x:=by
 have:=(List.getElem?_eq_some_iff.1 h).1
 rw[List.getElem?_set,if_pos rfl,if_pos this]
theorem at_lt{S:Zt}{id:Nat}{r:Row}(h:S[id]?=some r):id<S.length:=(List.getElem?_eq_some_iff.1 h).1
def Own(S:Zt)(v:SV)(sz:Nat)(es:List SV)(b:Nat):Prop:=∃id cap rest,v=.osl id sz 0 es.length cap∧S[id]?=some (.cells (es++rest) true)∧b≤id∧(∀c,cap=some c→es.length≤c)
def OwnA(S:Zt)(v:SV)(sz:Nat)(es:List SV)(b:Nat):Prop:=∃id cap rest,v=.osl id sz 0 es.length cap∧S[id]?=some (.cells (es++rest) true)∧b≤id∧(cap=none∨cap=some es.length)
theorem OwnA.own{S:Zt}{v:SV}{sz:Nat}{es:List SV}{b:Nat}(h:OwnA S v sz es b):Own S v sz es b:=by
 obtain⟨id,cap,rest,h1,h2,h3,h4⟩:=h
 refine⟨id,cap,rest,h1,h2,h3,fun c hc=>?_⟩
 rcases h4 with h4|h4
 ·rw[h4]at hc;cases hc
 ·rw[h4]at hc;cases hc;exact Nat.le_refl _
def Kp(S S':Zt)(b:Nat):Prop:=∀i,i<b→S'[i]?=S[i]?
theorem Kp.refl(S:Zt)(b:Nat):Kp S S b:=fun _ _=>rfl
theorem Kp.trans{S T U:Zt}{b:Nat}(h:Kp S T b)(h2:Kp T U b):Kp S U b:=fun i hi=>(h2 i hi).trans (h i hi)
theorem Kp.mono{S T:Zt}{b c:Nat}(h:Kp S T b)(hc:c≤b):Kp S T c:=fun i hi=>h i (by omega)
theorem Kp.at{S T:Zt}{b i:Nat}{r:Row}(h:Kp S T b)(hi:i<b)(hr:S[i]?=some r):T[i]?=some r:=(h i hi).trans hr
theorem Kp.app{S T:Zt}{b:Nat}(h:b≤S.length):Kp S (S++T) b:=fun i hi=>by rw[List.getElem?_append_left (by omega)]
theorem Kp.set{S:Zt}{b j:Nat}{r:Row}(h:b≤j):Kp S (S.set j r) b:=fun i hi=>by rw[List.getElem?_set,if_neg (by omega)]
theorem Own.lt{S:Zt}{v:SV}{sz:Nat}{es:List SV}{b:Nat}(h:Own S v sz es b):b<S.length:=by
 obtain⟨id,cap,rest,_,h,hb,_⟩:=h
 have:=at_lt h;omega
theorem Own.app{S T:Zt}{v:SV}{sz:Nat}{es:List SV}{b:Nat}(h:Own S v sz es b):Own (S++T) v sz es b:=by
 obtain⟨id,cap,rest,h1,h2,h3,h4⟩:=h
 exact⟨id,cap,rest,h1,at_app h2,h3,h4⟩
theorem Own.kp{S T:Zt}{v:SV}{sz:Nat}{es:List SV}{b c:Nat}(h:Own S v sz es b)(hk:Kp S T c)(hc:S.length≤c):Own T v sz es b:=by
 obtain⟨id,cap,rest,h1,h2,h3,h4⟩:=h
 exact⟨id,cap,rest,h1,hk.at (by have:=at_lt h2;omega) h2,h3,h4⟩
theorem Own.mono{S:Zt}{v:SV}{sz:Nat}{es:List SV}{b c:Nat}(h:Own S v sz es b)(hc:c≤b):Own S v sz es c:=by
 obtain⟨id,cap,rest,h1,h2,h3,h4⟩:=h
 exact⟨id,cap,rest,h1,h2,by omega,h4⟩
theorem OwnA.app{S T:Zt}{v:SV}{sz:Nat}{es:List SV}{b:Nat}(h:OwnA S v sz es b):OwnA (S++T) v sz es b:=by
 obtain⟨id,cap,rest,h1,h2,h3,h4⟩:=h
 exact⟨id,cap,rest,h1,at_app h2,h3,h4⟩
theorem OwnA.kp{S T:Zt}{v:SV}{sz:Nat}{es:List SV}{b c:Nat}(h:OwnA S v sz es b)(hk:Kp S T c)(hc:S.length≤c):OwnA T v sz es b:=by
 obtain⟨id,cap,rest,h1,h2,h3,h4⟩:=h
 exact⟨id,cap,rest,h1,hk.at (by have:=at_lt h2;omega) h2,h3,h4⟩
theorem OwnA.mono{S:Zt}{v:SV}{sz:Nat}{es:List SV}{b c:Nat}(h:OwnA S v sz es b)(hc:c≤b):OwnA S v sz es c:=by
 obtain⟨id,cap,rest,h1,h2,h3,h4⟩:=h
 exact⟨id,cap,rest,h1,h2,by omega,h4⟩
theorem pushAll{j:TyI}{S:Zt}{v x:SV}{es xs:List SV}{b:Nat}{k:SV×Zt→Prop}(hO:OwnA S v j.size es b)(hs:j.size≠0)(hz:j.zero.n=j.size)(hx:sizesOk j.size xs=true)(hel:elemsS S x=some xs)
  (hb1:(es.length+xs.length)*j.bytes≤roomS) (hb2:es.length+xs.length≤roomS)
  (h:∀v' S',OwnA S' v' j.size (es++xs) b→Kp S S' b→k (v',S')):wpO (appS j S v x) k:=by
 by_cases hne:xs=[]
 ·subst hne
  have e:appS j S v x=some (v,S):=by
   obtain⟨id,cap,rest,rfl,_⟩:=hO
   unfold appS
   rw[if_pos hz]
   unfold appendS
   rw[hel]
   rfl
  refine wo e (h v S (by rw[List.append_nil];exact hO) (Kp.refl _ _))
 ·obtain⟨id,cap,rest,rfl,hS,hb,hcap⟩:=hO
  have hid:=at_lt hS
  have h0:0<xs.length:=List.length_pos_iff.2 hne
  have hap:=app_row (j:=j) (S:=S) (id:=id) (off:=0) (len:=es.length) (cap:=cap) (es:=es++rest) (xs:=xs) (x:=x) hz hs hel hne
   hx hS hb1 hb2 (by simp) (by
    rcases hcap with h|h
    ·exact .inl h
    ·exact .inr ⟨es.length,h,by omega⟩)
  refine wo hap ?_
  have htk:(((es++rest).drop 0).take es.length++xs)=es++xs:=by simp
  rw[htk]
  have hlen:(if cap=none then S.set id .dead else S).length=S.length:=by split<;>simp
  refine h _ _ ⟨S.length,none,[],by simp,?_,by omega,.inl rfl⟩ ?_
  ·have:=at_new (S:=(if cap=none then S.set id .dead else S)) (r:=.cells (es++xs) true)
   rw[hlen]at this
   rw[List.append_nil]
   exact this
  ·refine Kp.trans (T:=(if cap=none then S.set id .dead else S)) ?_ (Kp.app (by rw[hlen];omega))
   split
   ·exact Kp.set hb
   ·exact Kp.refl _ _
theorem push{j:TyI}{S:Zt}{v x:SV}{es:List SV}{b:Nat}{k:SV×Zt→SV×Zt→Prop}(hO:OwnA S v j.size es b)(hs:j.size≠0)(hz:j.zero.n=j.size)(hx:x.n=j.size)(hfl:flatS x=true)
  (hl:litS j.size [j.zero] [(0,x)]=some [x]) (hj16:j.size≤16777216) (hb1:(es.length+1)*j.bytes≤roomS) (hb2:es.length+1≤roomS)
  (h:∀p v' S',OwnA S' v' j.size (es++[x]) b→Kp S S' b→k p (v',S')):wpO (bslS j 1 [(0,x)] S) fun p=>wpO (appS j p.2 v p.1) fun q=>k p q:=by
 have e1:bslS j 1 [(0,x)] S=some (.osl S.length j.size 0 1 (some 1),S++[.cells [x] true]):=by
  unfold bslS
  rw[if_neg (by simp only[not_or,Decidable.not_not];exact⟨hs,by omega,hz⟩)]
  show(litS j.size [j.zero] [(0,x)]).map _=_
  rw[hl];rfl
 refine wo e1 ?_
 have hel:elemsS (S++[.cells [x] true]) (.osl S.length j.size 0 1 (some 1))=some [x]:=by
  unfold elemsS
  simp only[at_new]
  rfl
 refine pushAll (xs:=[x]) hO.app hs hz (by simp[sizesOk,hx,hfl]) hel (by simpa using hb1) (by simpa using hb2) (fun v' S' h1 h2=>h _ v' S' h1 ((Kp.app ?_).trans h2))
 have:=hO.own.lt;omega
theorem Own.bsl{j:TyI}{S:Zt}{k:SV×Zt→Prop}(hs:j.size≠0)(hz:j.zero.n=j.size)(h:∀v S',OwnA S' v j.size [] S.length→Kp S S' S.length→S'.length=S.length+1→k (v,S')):wpO (bslS j 0 [] S) k:=by
 have e1:bslS j 0 [] S=some (.osl S.length j.size 0 0 (some 0),S++[.cells [] true]):=by
  unfold bslS
  rw[if_neg (by simp only[not_or,Decidable.not_not];exact⟨hs,by omega,hz⟩)]
  rfl
 refine wo e1 (h _ _ ⟨S.length,some 0,[],rfl,at_new,Nat.le_refl _,.inr rfl⟩ (Kp.app (Nat.le_refl _)) (by simp))
theorem Own.bsl1{j:TyI}{S:Zt}{x:SV}{k:SV×Zt→Prop}(hs:j.size≠0)(hz:j.zero.n=j.size)(hl:litS j.size [j.zero] [(0,x)]=some [x])(hj16:j.size≤16777216)(h:∀v S',OwnA S' v j.size [x] S.length→Kp S S' S.length→S'.length=S.length+1→k (v,S')):wpO (bslS j 1 [(0,x)] S) k:=by
 have e1:bslS j 1 [(0,x)] S=some (.osl S.length j.size 0 1 (some 1),S++[.cells [x] true]):=by
  unfold bslS
  rw[if_neg (by simp only[not_or,Decidable.not_not];exact⟨hs,by omega,hz⟩)]
  show(litS j.size [j.zero] [(0,x)]).map _=_
  rw[hl];rfl
 refine wo e1 (h _ _ ⟨S.length,some 1,[],rfl,at_new,Nat.le_refl _,.inr rfl⟩ (Kp.app (Nat.le_refl _)) (by simp))
theorem Own.mk{j:TyI}{S:Zt}{k k':IntKind}{n:Nat}{K:SV×Zt→Prop}(hj:j.size≠0)(hz:j.zero.n=j.size)(h1:n≤roomS)(h2:n*j.bytes≤roomS)(h:∀v S',OwnA S' v j.size (List.replicate n j.zero) S.length→Kp S S' S.length→S'.length=S.length+1→K (v,S')) :
  wpO (mkslS j (.int k (n:Int)) (.int k' (n:Int)) S) K:=by
 refine wo (mksl_ok hj hz h1 h2) (h _ _ ⟨S.length,some n,[],by simp,by simp,Nat.le_refl _,.inr (by simp)⟩ (Kp.app (Nat.le_refl _)) (by simp))
def FzO(S:Zt)(b:Nat)(v v':SV):Prop:=frz S dS v=some v'∧∀i∈refs S dS v,b≤i
def FzL(S:Zt)(b:Nat):List SV→List SV→Prop
 |[],[]=>True
 |a::r,a'::r'=>FzO S b a a'∧FzL S b r r'
 |_,_=>False
theorem fz_pure{S:Zt}{b:Nat}{v:SV}(h:pureS v=true):FzO S b v v:=by
 obtain⟨h1,h2⟩:=frz_pure (S:=S) h
 exact⟨h1,by rw[h2];intro i hi;cases hi⟩
theorem fz_own{S:Zt}{v:SV}{sz b:Nat}{es:List SV}(hO:Own S v sz es b)(hp:∀e∈es,pureS e=true):∃c,c≠.nil∧FzO S b v (.vsl es c):=by
 obtain⟨id,cap,rest,rfl,hS,hb,_⟩:=hO
 have ht:((es++rest).drop 0).take es.length=es:=by simp
 obtain⟨h1,h2⟩:=frz_row (sz:=sz) (cap:=cap) (off:=0) (len:=es.length) hS (by simp) (by rw[ht];exact hp)
 rw[ht]at h1
 refine⟨_,?_,h1,by rw[h2];intro i hi;simp at hi;omega⟩
 split<;>simp
theorem sealS_kp:∀(l:List Nat) (S:Zt) (b:Nat),(∀i∈l,b≤i)→Kp S (sealS S l) b
 |[],S,b,_=>Kp.refl _ _
 |id::r,S,b,h=>by
  have hid:=h id List.mem_cons_self
  have hr:=sealS_kp r (match S[id]? with|some (.cells es _)=>S.set id (.cells es false)|_=>S) b (fun i hi=>h i (List.mem_cons_of_mem _ hi))
  refine Kp.trans ?_ hr
  split
  ·exact Kp.set hid
  ·exact Kp.refl _ _
theorem fzL{S:Zt}{b:Nat}:∀{l l':List SV},FzL S b l l'→l.mapM (frz S dS)=some l'∧∀i∈l.flatMap (refs S dS),b≤i
 |[],[],_=>⟨rfl,fun i hi=>by cases hi⟩
 |a::r,a'::r',h=>by
  obtain⟨⟨h1,h2⟩,h3⟩:=h
  obtain⟨h4,h5⟩:=fzL h3
  refine⟨by rw[List.mapM_cons,h1,h4];rfl,fun i hi=>?_⟩
  rw[List.flatMap_cons]at hi
  rcases List.mem_append.1 hi with hi|hi
  ·exact h2 i hi
  ·exact h5 i hi
 |[],_::_,h=>absurd h (by simp[FzL])
 |_::_,[],h=>absurd h (by simp[FzL])
theorem call_fz{cfg:Cfg}{f:FuncId}{args args':List SV}{S:Zt}{b:Nat}{k:SV×Zt→Prop}(hm:cfg.mode f=.pure)(h:FzL S b args args')(hk:∀S',Kp S S' b→wpO (pW cfg f args') fun v=>k (v,S')):wpO (cW cfg f args S) k:=by
 obtain⟨h1,h2⟩:=fzL h
 exact call_frz hm h1 (hk _ (sealS_kp _ _ _ h2))
theorem call_fz2{cfg:Cfg}{f:FuncId}{x x' y y':SV}{S:Zt}{b:Nat}{k:SV×Zt→Prop}(hm:cfg.mode f=.pure)(h1:FzO S b x x')(h2:FzO S b y y')(hk:∀S',Kp S S' b→wpO (pW cfg f [x',y']) fun v=>k (v,S')):wpO (cW cfg f [x,y] S) k:=
 call_fz (args':=[x',y']) hm ⟨h1,h2,trivial⟩ hk
theorem call_fz3{cfg:Cfg}{f:FuncId}{x x' y y' z z':SV}{S:Zt}{b:Nat}{k:SV×Zt→Prop}(hm:cfg.mode f=.pure)(h1:FzO S b x x')(h2:FzO S b y y')(h3:FzO S b z z')(hk:∀S',Kp S S' b→wpO (pW cfg f [x',y',z']) fun v=>k (v,S')):wpO (cW cfg f [x,y,z] S) k:=
 call_fz (args':=[x',y',z']) hm ⟨h1,h2,h3,trivial⟩ hk
theorem Own.len{S:Zt}{v:SV}{sz b:Nat}{es:List SV}(hO:Own S v sz es b){i:TyI}{t:TypeId}(h:i.kind=.slice t):lenS i v=some (.int .i64 (es.length:Int)):=by
 obtain⟨id,cap,rest,rfl,_⟩:=hO
 exact len_osl h
theorem Own.frz{S:Zt}{v:SV}{sz b:Nat}{es:List SV}{Q:SV→Prop}(hO:Own S v sz es b)(hp:∀e∈es,pureS e=true)(h:∀c,c≠.nil→Q (.vsl es c)):wpO (frz S dS v) Q:=by
 obtain⟨c,hc,h1,_⟩:=fz_own hO hp
 exact wo h1 (h c hc)
theorem Own.get{cfg:Cfg}{i j:TyI}{t:TypeId}{S:Zt}{v e w:SV}{b n:Nat}{es:List SV}{k:IntKind}{K:SV→SV→Prop}(hO:Own S v j.size es b)(h:i.kind=.slice t)(ht:cfg.ty t=some j)(hj:j.size≠0)(he:es[n]?=some e)
  (hw:partS j e.cells 0=some w) (hk:∀p,K p w):wpO (ixS cfg i v (.int k (n:Int))) fun p=>wpO (ldS j S p) fun w=>K p w:=by
 obtain⟨id,cap,rest,rfl,hS,hb,_⟩:=hO
 have hn:n<es.length:=(List.getElem?_eq_some_iff.1 he).1
 refine wo (idx_osl h ht hj hn rfl) ?_
 refine wo ((load_row hS (by rw[Nat.zero_add,List.getElem?_append_left hn];exact he)).trans hw) (hk _)
theorem Own.ptr{cfg:Cfg}{i j:TyI}{t:TypeId}{S:Zt}{v e w:SV}{b n:Nat}{es:List SV}{k:IntKind}(hO:Own S v j.size es b)(h:i.kind=.slice t)(ht:cfg.ty t=some j)(hj:j.size≠0)(he:es[n]?=some e)
  (hw:partS j e.cells 0=some w):∃p,ixS cfg i v (.int k (n:Int))=some p∧ldS j S p=some w:=by
 obtain⟨id,cap,rest,rfl,hS,hb,_⟩:=hO
 have hn:n<es.length:=(List.getElem?_eq_some_iff.1 he).1
 exact⟨_,idx_osl h ht hj hn rfl,(load_row hS (by rw[Nat.zero_add,List.getElem?_append_left hn];exact he)).trans hw⟩
theorem OwnA.put{cfg:Cfg}{i j:TyI}{t:TypeId}{S:Zt}{v e x e':SV}{b n:Nat}{es:List SV}{k:IntKind}{K:SV→Zt→Prop}(hO:OwnA S v j.size es b)(h:i.kind=.slice t)(ht:cfg.ty t=some j)(hj:j.size≠0)(he:es[n]?=some e)
  (hx:x.n=j.size) (hf:flatS x=true) (hp:putPart e 0 x=some e') (hk:∀p S',OwnA S' v j.size (es.set n e') b→Kp S S' b→S'.length=S.length→K p S'):wpO (ixS cfg i v (.int k (n:Int))) fun p=>wpO (stS j S p x) fun S'=>K p S':=by
 obtain⟨id,cap,rest,rfl,hS,hb,hcap⟩:=hO
 have hn:n<es.length:=(List.getElem?_eq_some_iff.1 he).1
 refine wo (idx_osl h ht hj hn rfl) ?_
 rw[Nat.zero_add]
 refine wo (store_row hS (by rw[List.getElem?_append_left hn];exact he) hx hf hp) (hk _ _ ⟨id,cap,rest,by simp,?_,hb,?_⟩ (Kp.set hb) (by simp))
 ·rw[List.set_append_left _ _ hn];exact at_eq hS
 ·rw[List.length_set];exact hcap
theorem Own.cut{j:TyI}{S:Zt}{v:SV}{b n:Nat}{es:List SV}{k:IntKind}(hO:Own S v j.size es b)(hj:j.size≠0)(hn:n≤es.length)(hs:∀es c,sizeIs j.size (.vsl es c)=true→True):∃v',slicS j v none (some (.int k (n:Int))) none=some v'∧Own S v' j.size (es.take n) b:=by
 obtain⟨id,cap,rest,rfl,hS,hb,hc⟩:=hO
 refine⟨.osl id j.size 0 n cap,?_,id,cap,es.drop n++rest,?_,?_,hb,fun c h=>?_⟩
 ·unfold slicS
  rw[if_neg hj]
  simp only[optNat,natS,Int.natCast_nonneg,if_true,Int.toNat_natCast,Option.map_some,Option.bind_some,sizeIs,beq_self_eq_true,sliceS,Option.getD_none,Option.getD_some]
  have hw:withinS es.length cap n=true:=by
   unfold withinS
   cases cap with
   |none=>simp[hn]
   |some c=>have:=hc c rfl;simp;omega
  rw[if_pos ⟨Nat.zero_le _,hw⟩]
  simp
 ·rw[List.length_take,Nat.min_eq_left hn]
 ·rw[←List.append_assoc,List.take_append_drop];exact hS
 ·have:=hc c h
  rw[List.length_take];omega
theorem sealS_out:∀(l:List Nat) (S:Zt) (i:Nat),i∉l→(sealS S l)[i]?=S[i]?
 |[],S,i,_=>rfl
 |id::r,S,i,h=>by
  simp only[List.mem_cons,not_or]at h
  show(sealS _ r)[i]?=_
  rw[sealS_out r _ i h.2]
  split
  ·rw[List.getElem?_set,if_neg (fun e=>h.1 e.symm)]
  ·rfl
theorem sealS_in:∀(l:List Nat) (S:Zt) (i:Nat) (es:List SV) (lv:Bool),S[i]?=some (.cells es lv)→∃lv',(sealS S l)[i]?=some (.cells es lv')
 |[],S,i,es,lv,h=>⟨lv,h⟩
 |id::r,S,i,es,lv,h=>by
  show ∃lv',(sealS (match S[id]? with|some (.cells es _)=>S.set id (.cells es false)|_=>S) r)[i]?=_
  split
  ·rename_i es' lv'' hs
   by_cases hi:id=i
   ·subst hi
    rw[h]at hs
    cases hs
    exact sealS_in r _ _ es false (at_eq h)
   ·exact sealS_in r _ i es lv (at_ne h hi)
  ·exact sealS_in r _ i es lv h
def Only(S S':Zt)(v:SV):Prop:=∀i,i<S.length→(∀s o n c,v≠.osl i s o n c)→S'[i]?=S[i]?
def Sn(S S':Zt):Prop:=∀(i:Nat) (es:List SV) (lv:Bool),S[i]?=some (.cells es lv)→∃lv',S'[i]?=some (.cells es lv')
theorem Sn.refl(S:Zt):Sn S S:=fun i es lv h=>⟨lv,h⟩
theorem Sn.trans{S T U:Zt}(h:Sn S T)(h2:Sn T U):Sn S U:=fun i es lv hi=>by
 obtain⟨l1,h1⟩:=h i es lv hi
 exact h2 i es l1 h1
theorem Sn.app{S T:Zt}:Sn S (S++T):=fun i es lv h=>⟨lv,at_app h⟩
theorem Sn.kp{S T:Zt}(h:Kp S T S.length):Sn S T:=fun i es lv hi=>⟨lv,h.at (at_lt hi) hi⟩
def Dj(v w:SV):Prop:=∀i s o n c i' s' o' n' c',v=.osl i s o n c→w=.osl i' s' o' n' c'→i≠i'
theorem Own.only{S S':Zt}{v w:SV}{sz b:Nat}{es:List SV}(h:Own S w sz es b)(ho:Only S S' v)(hd:Dj v w):Own S' w sz es b:=by
 obtain⟨id,cap,rest,rfl,h2,h3,h4⟩:=h
 refine⟨id,cap,rest,rfl,?_,h3,h4⟩
 rw[ho id (at_lt h2) (fun s o n c e=>hd id s o n c id _ _ _ _ e rfl rfl)]
 exact h2
theorem Only.at{S S':Zt}{v:SV}{sz b:Nat}{es:List SV}(ho:Only S S' v)(hv:Own S v sz es b){i:Nat}{r:Row}(hi:i<b)(hr:S[i]?=some r):S'[i]?=some r:=by
 obtain⟨id,cap,rest,rfl,h2,h3,h4⟩:=hv
 rw[ho i (at_lt hr) (fun s o n c e=>by cases e;omega)]
 exact hr
theorem Only.atv{S S':Zt}{es:List SV}{c:VC}(ho:Only S S' (.vsl es c)){i:Nat}{r:Row}(hr:S[i]?=some r):S'[i]?=some r:=by
 rw[ho i (at_lt hr) (fun s o n c e=>by cases e)]
 exact hr
theorem dj_new{S T:Zt}{v w:SV}{sz sz' b:Nat}{es es':List SV}(hv:Own T v sz es S.length)(hw:Own S w sz' es' b):Dj v w:=by
 obtain⟨id,cap,rest,rfl,h2,h3,h4⟩:=hv
 obtain⟨id',cap',rest',rfl,h2',h3',h4'⟩:=hw
 intro i s o n c i' s' o' n' c' e1 e2
 cases e1;cases e2
 have:=at_lt h2'
 omega
theorem Own.put{cfg:Cfg}{i j:TyI}{t:TypeId}{S:Zt}{v e x e':SV}{b n:Nat}{es:List SV}{k:IntKind}{K:SV→Zt→Prop}(hO:Own S v j.size es b)(h:i.kind=.slice t)(ht:cfg.ty t=some j)(hj:j.size≠0)(he:es[n]?=some e)
  (hx:x.n=j.size) (hf:flatS x=true) (hp:putPart e 0 x=some e') (hk:∀p S',Own S' v j.size (es.set n e') b→Only S S' v→S'.length=S.length→K p S'):wpO (ixS cfg i v (.int k (n:Int))) fun p=>wpO (stS j S p x) fun S'=>K p S':=by
 obtain⟨id,cap,rest,rfl,hS,hb,hcap⟩:=hO
 have hn:n<es.length:=(List.getElem?_eq_some_iff.1 he).1
 refine wo (idx_osl h ht hj hn rfl) ?_
 rw[Nat.zero_add]
 refine wo (store_row hS (by rw[List.getElem?_append_left hn];exact he) hx hf hp) (hk _ _ ⟨id,cap,rest,by simp,?_,hb,?_⟩ ?_ (by simp))
 ·rw[List.set_append_left _ _ hn];exact at_eq hS
 ·rw[List.length_set];exact hcap
 ·intro i hi hne
  rw[List.getElem?_set,if_neg (fun e=>hne _ _ _ _ (by rw[e]))]
def Ro(S:Zt)(v:SV)(l:List Nat):Prop:=(∃c,v=.vsl (u64s l) c)∨∃id cap rest lv,v=.osl id 1 0 l.length cap∧S[id]?=some (.cells (u64s l++rest) lv)
theorem Ro.sn{S T:Zt}{v:SV}{l:List Nat}(h:Ro S v l)(hs:Sn S T):Ro T v l:=by
 rcases h with h|⟨id,cap,rest,lv,h1,h2⟩
 ·exact .inl h
 ·obtain⟨lv',h3⟩:=hs _ _ _ h2
  exact .inr ⟨id,cap,rest,lv',h1,h3⟩
theorem Own.ro{S:Zt}{v:SV}{l:List Nat}{b:Nat}(h:Own S v 1 (u64s l) b):Ro S v l:=by
 obtain⟨id,cap,rest,h1,h2,_⟩:=h
 exact .inr ⟨id,cap,rest,true,by rw[h1,u64s_len],h2⟩
theorem Ro.fz{S:Zt}{v:SV}{l:List Nat}(h:Ro S v l):∃c,FzO S 0 v (.vsl (u64s l) c):=by
 rcases h with⟨c,rfl⟩|⟨id,cap,rest,lv,rfl,hS⟩
 ·exact⟨c,fz_pure rfl⟩
 ·have ht:((u64s l++rest).drop 0).take l.length=u64s l:=by rw[List.drop_zero,←u64s_len,List.take_left]
  obtain⟨h1,h2⟩:=frz_row (sz:=1) (cap:=cap) (off:=0) (len:=l.length) hS (by simp) (by rw[ht];exact u64s_pure)
  rw[ht]at h1
  exact⟨_,h1,fun _ _=>Nat.zero_le _⟩
theorem Ro.len{S:Zt}{v:SV}{l:List Nat}(h:Ro S v l){i:TyI}{t:TypeId}(hi:i.kind=.slice t):lenS i v=some (.int .i64 (l.length:Int)):=by
 rcases h with⟨c,rfl⟩|⟨id,cap,rest,lv,rfl,hS⟩
 ·rw[len_vsl hi,u64s_len]
 ·exact len_osl hi
theorem call_sn{cfg:Cfg}{f:FuncId}{args args':List SV}{S:Zt}{b:Nat}{k:SV×Zt→Prop}(hm:cfg.mode f=.pure)(h:FzL S b args args')(hk:∀S',Kp S S' b→Sn S S'→wpO (pW cfg f args') fun v=>k (v,S')):wpO (cW cfg f args S) k:=by
 obtain⟨h1,h2⟩:=fzL h
 exact call_frz hm h1 (hk _ (sealS_kp _ _ _ h2) (fun i es lv hi=>sealS_in _ _ i es lv hi))
theorem call_sn3{cfg:Cfg}{f:FuncId}{x x' y y' z z':SV}{S:Zt}{b:Nat}{k:SV×Zt→Prop}(hm:cfg.mode f=.pure)(h1:FzO S b x x')(h2:FzO S b y y')(h3:FzO S b z z')(hk:∀S',Kp S S' b→Sn S S'→wpO (pW cfg f [x',y',z']) fun v=>k (v,S')):wpO (cW cfg f [x,y,z] S) k:=
 call_sn (args':=[x',y',z']) hm ⟨h1,h2,h3,trivial⟩ hk
theorem call_freshG{cfg:Cfg}{f:FuncId}{args args':List SV}{S:Zt}{k:SV×Zt→Prop}(hm:cfg.mode f=.fresh)(h1:args.mapM (frz S dS)=some args')(h:wpO (bW cfg f args' []) fun p=>wpO (freshO p) fun r=>k (freshIn S args r)):wpO (cW cfg f args S) k:=by
 rw[callW_eq,hm]
 simp only[h1,Option.bind_some]
 rw[freshW_eq]
 rw[wpO_iff]at h ⊢
 obtain⟨p,hb,h⟩:=h
 rw[wpO_iff]at h
 obtain⟨r,hr,h⟩:=h
 exact⟨_,by rw[hb];simp only[Option.bind_some];rw[hr];rfl,h⟩
theorem freshO_row{S:Zt}{id len:Nat}{cap:Option Nat}{o:List Nat}(h:S[id]?=some (.cells (u64s o) true)):freshO (.osl id 1 0 len cap,S)=some (.inr (u64s o,1,0,len,cap)):=by
 have hp:(u64s o).all pureS=true:=List.all_eq_true.2 u64s_pure
 unfold freshO
 simp only[h,hp,if_true]
theorem refs_osl{S:Zt}{v:SV}{sz b:Nat}{es:List SV}(h:Own S v sz es b)(hp:∀e∈es,pureS e=true):∀i∈refs S dS v,∃s o n c,v=.osl i s o n c:=by
 obtain⟨id,cap,rest,rfl,hS,hb,_⟩:=h
 have ht:((es++rest).drop 0).take es.length=es:=by simp
 obtain⟨h1,h2⟩:=frz_row (sz:=sz) (cap:=cap) (off:=0) (len:=es.length) hS (by simp) (by rw[ht];exact hp)
 rw[h2]
 intro i hi
 simp at hi
 exact⟨sz,0,es.length,cap,by rw[hi]⟩
end Go.Sh
namespace Go.Proofs
open Go.Sh
open Pl (IsP)
theorem tprime_loop:∀(m n d:Nat) (e:En) (k:X→En→Zt→Prop),n≤2147483647→2≤d→d≤n+1→n+2≤d+m→e 0=.int .u64 (n:Int)→e 3=.int .u64 (d:Int)→(∀c,2≤c→c<d→n%c≠0)→
  ((∀c,2≤c→c*c≤n→n%c≠0)→∀e',k (.exit 0) e' [])→((∃c,2≤c∧c*c≤n∧n%c=0)→∀e':En,e' 2=.bool false→k .ret e' [])→DenP cT 21 (.loop L85_0) e [] k:=by
 intro m
 induction m with
 |zero=>intro n d e k hn hd hd2 hm;omega
 |succ m ih=>
  intro n d e k hn hd hd2 hm h0 h3 hc hk1 hk2
  refine L85_0_ok ?_
  unfold TL85_0
  simp only[h0,h3,b_mul,ws,mulU (show d<4294967296 by omega) (show d<4294967296 by omega),b_leq]
  refine condP_dec (fun hle=>?_) (fun hgt=>?_)
  ·have hle2:d*d≤n:=by omega
   refine wo (b_remN (by omega)) ?_
   simp only[b_eql,ws]
   refine condP_dec (fun hz=>?_) (fun hz=>?_)
   ·exact hk2 ⟨d,hd,hle2,by omega⟩ _ rfl
   ·simp only[b_add,ws]
    have e1:wrS .u64 ((d:Int)+1)=((d+1:Nat):Int):=addU (b:=1) (by omega)
    rw[e1]
    have hdn:d≤n:=Nat.le_trans (Nat.le_mul_of_pos_left d (by omega)) hle2
    refine ih n (d+1) _ k hn (by omega) (by omega) (by omega) h0 rfl (fun c h1 h2=>?_) hk1 hk2
    by_cases hcd:c=d
    ·subst hcd;omega
    ·exact hc c h1 (by omega)
  ·have hgt2:n<d*d:=by omega
   refine hk1 (fun c h1 h2=>?_) _
   refine hc c h1 ?_
   rcases Nat.lt_or_ge c d with h|h
   ·exact h
   ·have:=Nat.mul_le_mul h h;omega
theorem r_prime{n:Nat}{Q:SV→Prop}(hn:n≤2147483647)(h1:IsP n→Q (.bool true))(h2:¬IsP n→Q (.bool false)):wpO (pW cT 85 [.int .u64 (n:Int)]) Q:=by
 refine po rfl (F85_ok (k:=fun v S=>wpO (frz S dS v) Q) ?_)
 unfold F85
 simp only[b_lss,ws]
 by_cases hl:n<2
 ·rw[decide_eq_true (by omega)]
  simp only[grdP_tf,pickS_t,ws,condP_t]
  exact h2 (fun hp=>by have:=hp.1;omega)
 ·rw[decide_eq_false (by omega)]
  simp only[grdP_ff,b_gtr,ws,pickS_f]
  rw[decide_eq_false (by omega),cf_]
  refine tprime_loop n n 2 _ _ hn (by omega) (by omega) (by omega) rfl rfl (fun c h1 h2=>by omega) (fun hall e'=>?_) (fun⟨c,h3,h4,h5⟩ e' he=>?_)
  ·refine K85_0e0_ok ?_
   unfold TK85_0e0
   exact h1 (Pl.isP_of_trial (by omega) hall)
  ·refine K85_0r_ok ?_
   unfold TK85_0r
   rw[he]
   exact h2 (fun hp=>hp.trial h3 h4 h5)
theorem next_loop:∀(m p n:Nat) (e:En) (k:X→En→Zt→Prop),p+m=2147483647→n<p→e 4=.int .u64 (p:Int)→
  (∀(q:Nat) (e':En),IsP q→n<q→q≤2147483647→e' 4=.int .u64 (q:Int)→k (.exit 0) e' [])→DenP cT 15 (.loop L56_0) e [] k:=by
 intro m
 induction m with
 |zero=>
  intro p n e k hp hn h4 hk
  refine L56_0_ok ?_
  unfold TL56_0
  rw[h4]
  have hpp:p=2147483647:=by omega
  have hP:IsP p:=by rw[hpp];exact Pl.big_prime
  refine cpu rfl rfl (r_prime (by omega) (fun _=>?_) (fun h=>absurd hP h))
  simp only[u_not,ws,Bool.not_true,cf_]
  exact hk p _ hP hn (by omega) h4
 |succ m ih=>
  intro p n e k hp hn h4 hk
  refine L56_0_ok ?_
  unfold TL56_0
  rw[h4]
  refine cpu rfl rfl (r_prime (by omega) (fun hP=>?_) (fun hP=>?_))
  ·simp only[u_not,ws,Bool.not_true,cf_]
   exact hk p _ hP hn (by omega) h4
  ·simp only[u_not,ws,Bool.not_false,condP_t,b_add]
   have e1:wrS .u64 ((p:Int)+1)=((p+1:Nat):Int):=addU (b:=1) (by omega)
   rw[e1]
   exact ih (p+1) n _ k (by omega) (by omega) rfl hk
theorem r_next{n:Nat}{Q:SV→Prop}(hn:n<2147483647)(h:∀p,IsP p→n<p→p≤2147483647→Q (.tup [.int .u64 (p:Int),.int .i64 0])):wpO (pW cT 56 [.int .u64 (n:Int)]) Q:=by
 refine po rfl (F56_ok (k:=fun v S=>wpO (frz S dS v) Q) ?_)
 unfold F56
 simp only[b_geq,ws,b_add]
 rw[decide_eq_false (by omega),cf_]
 have e1:wrS .u64 ((n:Int)+1)=((n+1:Nat):Int):=addU (b:=1) (by omega)
 rw[e1]
 refine next_loop (2147483646-n) (n+1) n _ _ (by omega) (by omega) rfl (fun q e' hq hn hle h4=>?_)
 refine K56_0e0_ok ?_
 unfold TK56_0e0
 rw[h4]
 exact h q hq hn hle
theorem pow_odd{o b k p:Nat}(h:k%2=1):(o*b%p)*(b*b%p)^(k/2)%p=o*b^k%p:=by
 have e:b^k=b*(b*b)^(k/2):=by
  rw[←Nat.pow_two,←Nat.pow_mul,Nat.mul_comm b,←Nat.pow_succ]
  congr 1;omega
 calc (o*b%p)*(b*b%p)^(k/2)%p=((o*b%p)%p*((b*b%p)^(k/2)%p))%p:=Nat.mul_mod ..
  _=((o*b)%p*((b*b)^(k/2)%p))%p:=by rw[Nat.mod_mod,←Nat.pow_mod]
  _=(o*b*(b*b)^(k/2))%p:=(Nat.mul_mod ..).symm
  _=o*b^k%p:=by rw[e,Nat.mul_assoc]
theorem pow_even{o b k p:Nat}(h:¬k%2=1):o*(b*b%p)^(k/2)%p=o*b^k%p:=by
 have e:b^k=(b*b)^(k/2):=by
  rw[←Nat.pow_two,←Nat.pow_mul]
  congr 1;omega
 calc o*(b*b%p)^(k/2)%p=(o%p*((b*b%p)^(k/2)%p))%p:=Nat.mul_mod ..
  _=(o%p*((b*b)^(k/2)%p))%p:=by rw[←Nat.pow_mod]
  _=(o*(b*b)^(k/2))%p:=(Nat.mul_mod ..).symm
  _=o*b^k%p:=by rw[e]
theorem rpow_loop:∀(n o b p T:Nat) (e:En) (k:X→En→Zt→Prop),0<p→p<4294967296→n<18446744073709551616→o<p→b<p→o*b^n%p=T→
  e 2=.int .u64 (p:Int)→e 7=.int .u64 (o:Int)→e 8=.int .u64 (b:Int)→e 9=.int .u64 (n:Int)→
  (∀e':En,e' 7=.int .u64 (T:Int)→k (.exit 0) e' [])→DenP cT 34 (.loop L224_0) e [] k:=by
 intro n
 induction n using Nat.strongRecOn with
 |ind n ih=>
  intro o b p T e k hp hp2 hn ho hb hT h2 h7 h8 h9 hk
  refine L224_0_ok ?_
  unfold TL224_0
  simp only[h2,h7,h8,h9,b_gtr,ws,b_mul]
  refine condP_dec (fun hpos=>?_) (fun hz=>?_)
  ·have hlt:n/2<n:=Nat.div_lt_self (by omega) (by omega)
   rw[mulU (show o<4294967296 by omega) (show b<4294967296 by omega),mulU (show b<4294967296 by omega) (show b<4294967296 by omega)]
   refine wo (b_remN (p:=2) (by omega)) ?_
   simp only[b_eql,ws]
   refine condP_dec (fun hodd=>?_) (fun hev=>?_)
   ·refine wo (b_remN hp) ?_
    refine wo (b_remN hp) ?_
    refine wo (b_quoN (p:=2) (by omega) hn) ?_
    refine ih (n/2) hlt (o*b%p) (b*b%p) p T _ k hp hp2 (by omega) (Nat.mod_lt _ hp) (Nat.mod_lt _ hp) ?_ h2 rfl rfl rfl hk
    rw[pow_odd (by omega)];exact hT
   ·refine wo (b_remN hp) ?_
    refine wo (b_quoN (p:=2) (by omega) hn) ?_
    refine ih (n/2) hlt o (b*b%p) p T _ k hp hp2 (by omega) ho (Nat.mod_lt _ hp) ?_ h2 h7 rfl rfl hk
    rw[pow_even (by omega)];exact hT
  ·have hn0:n=0:=by omega
   subst hn0
   rw[Nat.pow_zero,Nat.mul_one,Nat.mod_eq_of_lt ho]at hT
   subst hT
   exact hk _ h7
theorem pow_start{a n p:Nat}:(1%p)*(a%p)^n%p=a^n%p:=by
 rw[Nat.mul_mod,Nat.mod_mod,←Nat.pow_mod,←Nat.mul_mod,Nat.one_mul]
theorem r_pow{a n p:Nat}{Q:SV→Prop}(hp:0<p)(hp2:p<4294967296)(hn:n<18446744073709551616)(h:Q (.int .u64 ((a^n%p:Nat):Int))) :
  wpO (pW cT 224 [.int .u64 (a:Int),.int .u64 (n:Int),.int .u64 (p:Int)]) Q:=by
 refine po rfl (F224_ok (k:=fun v S=>wpO (frz S dS v) Q) ?_)
 unfold F224
 refine wo (b_remN (a:=1) hp) ?_
 refine wo (b_remN hp) ?_
 refine rpow_loop n (1%p) (a%p) p (a^n%p) _ _ hp hp2 hn (Nat.mod_lt _ hp) (Nat.mod_lt _ hp) pow_start rfl rfl rfl rfl (fun e' h7=>?_)
 refine K224_0e0_ok ?_
 unfold TK224_0e0
 rw[h7]
 exact h
def Iv(p a i:Nat):Prop:=i<p∧(p:Int)∣(i:Int)*(a:Int)-1
theorem iv_of{p a i:Nat}(hp:1<p)(hi:i<p)(h:a*i%p=1):Iv p a i:=by
 refine⟨hi,?_⟩
 have hdm:=Nat.div_add_mod (a*i) p
 rw[h]at hdm
 refine⟨((a*i/p:Nat):Int),?_⟩
 have:((p*(a*i/p)+1:Nat):Int)=((a*i:Nat):Int):=by rw[hdm]
 rw[Int.natCast_add,Int.natCast_mul,Int.natCast_mul a i]at this
 rw[Int.mul_comm (i:Int)]
 omega
theorem r_inv{a p:Nat}{Q:SV→Prop}(hp:IsP p)(hp2:p≤2147483647)(ha:¬p∣a)(h:∀i,Iv p a i→Q (.tup [.int .u64 (i:Int),.int .i64 0])) :
  wpO (pW cT 155 [.int .u64 (a:Int),.int .u64 (p:Int)]) Q:=by
 refine po rfl (F155_ok (k:=fun v S=>wpO (frz S dS v) Q) ?_)
 unfold F155
 have h2:=hp.1
 refine wo (b_remN (by omega)) ?_
 have hne:a%p≠0:=fun e=>ha (Nat.dvd_of_mod_eq_zero e)
 simp only[b_eql,ws]
 rw[decide_eq_false (by omega),cf_]
 simp only[b_sub,ws]
 have e1:wrS .u64 ((p:Int)-2)=((p-2:Nat):Int):=subU (b:=2) (by omega) (by omega)
 rw[e1]
 refine cpu rfl rfl (r_pow (by omega) (by omega) (by omega) ?_)
 have hlt:=Nat.mod_lt (a^(p-2)) (show 0<p by omega)
 have hiv:Iv p a (a^(p-2)%p):=by
  refine iv_of (by omega) hlt ?_
  rw[Nat.mul_mod,Nat.mod_mod,←Nat.mul_mod,Nat.mul_comm,←Nat.pow_succ]
  have:=Pl.fermat1 hp ha
  have e2:(p-2).succ=p-1:=by omega
  rw[e2]
  exact this
 exact h _ hiv
theorem w_prime{n:Nat}{Q:SV→Prop}(hn:n<4294967296)(h:∀p,IsP p→p≤2147483647→Q (.int .u64 (p:Int))):wpO (pW cT 9 [.int .u32 (n:Int)]) Q:=by
 refine po rfl (F9_ok (k:=fun v S=>wpO (frz S dS v) Q) ?_)
 unfold F9
 refine wo (b_remN (p:=2147483000) (by omega)) ?_
 have hlt:=Nat.mod_lt n (show 0<2147483000 by omega)
 refine wo (conv_int rfl rfl) ?_
 refine wo (b_remN (p:=2) (by omega)) ?_
 rw[wrapU64 (by omega) (by omega)]
 generalize n%2147483000=t at hlt ⊢
 simp only[b_eql,ws]
 refine condP_dec (fun _=>?_) (fun _=>?_)
 ·refine wo (b_quoN (p:=2) (by omega) (by omega)) ?_
  refine wo (b_remN (p:=30) (by omega)) ?_
  refine cpu rfl rfl (r_next (by omega) fun p hp _ hle=>?_)
  iterate 2 refine wo rfl ?_
  exact h p hp hle
 ·refine cpu rfl rfl (r_next (by omega) fun p hp _ hle=>?_)
  iterate 2 refine wo rfl ?_
  exact h p hp hle
theorem mpow_loop:∀(n o b p T:Nat) (e:En) (k:X→En→Zt→Prop),0<p→p<4294967296→n<18446744073709551616→o<p→b<p→o*b^n%p=T→
  e 2=.int .u64 (p:Int)→e 7=.int .u64 (o:Int)→e 0=.int .u64 (b:Int)→e 1=.int .u64 (n:Int)→
  (∀e':En,e' 7=.int .u64 (T:Int)→k (.exit 0) e' [])→DenP cT 31 (.loop L126_0) e [] k:=by
 intro n
 induction n using Nat.strongRecOn with
 |ind n ih=>
  intro o b p T e k hp hp2 hn ho hb hT h2 h7 h8 h9 hk
  refine L126_0_ok ?_
  unfold TL126_0
  simp only[h2,h7,h8,h9,b_gtr,ws,b_mul]
  refine condP_dec (fun hpos=>?_) (fun hz=>?_)
  ·have hlt:n/2<n:=Nat.div_lt_self (by omega) (by omega)
   rw[mulU (show o<4294967296 by omega) (show b<4294967296 by omega),mulU (show b<4294967296 by omega) (show b<4294967296 by omega)]
   simp only[b_and1,b_eql,ws]
   refine condP_dec (fun hodd=>?_) (fun hev=>?_)
   ·refine wo (b_remN hp) ?_
    refine wo (b_remN hp) ?_
    refine wo (b_shr1 hn) ?_
    refine ih (n/2) hlt (o*b%p) (b*b%p) p T _ k hp hp2 (by omega) (Nat.mod_lt _ hp) (Nat.mod_lt _ hp) ?_ h2 rfl rfl rfl hk
    rw[pow_odd (by omega)];exact hT
   ·refine wo (b_remN hp) ?_
    refine wo (b_shr1 hn) ?_
    refine ih (n/2) hlt o (b*b%p) p T _ k hp hp2 (by omega) ho (Nat.mod_lt _ hp) ?_ h2 h7 rfl rfl hk
    rw[pow_even (by omega)];exact hT
  ·have hn0:n=0:=by omega
   subst hn0
   rw[Nat.pow_zero,Nat.mul_one,Nat.mod_eq_of_lt ho]at hT
   subst hT
   exact hk _ h7
theorem m_pow{a n p:Nat}{Q:SV→Prop}(hp:0<p)(hp2:p<4294967296)(hn:n<18446744073709551616)(h:Q (.int .u64 ((a^n%p:Nat):Int))) :
  wpO (pW cT 126 [.int .u64 (a:Int),.int .u64 (n:Int),.int .u64 (p:Int)]) Q:=by
 refine po rfl (F126_ok (k:=fun v S=>wpO (frz S dS v) Q) ?_)
 unfold F126
 refine wo (b_remN (a:=1) hp) ?_
 refine wo (b_remN hp) ?_
 refine mpow_loop n (1%p) (a%p) p (a^n%p) _ _ hp hp2 hn (Nat.mod_lt _ hp) (Nat.mod_lt _ hp) pow_start rfl rfl rfl rfl (fun e' h7=>?_)
 refine K126_0e0_ok ?_
 unfold TK126_0e0
 rw[h7]
 exact h
def Opp(u v:Int)(U V:Nat):Prop:=(u=-(U:Int)∧v=(V:Int))∨(u=(U:Int)∧v=-(V:Int))
theorem opp_step{u v:Int}{U V q:Nat}(h:Opp u v U V):Opp v (u-(q:Int)*v) V (U+q*V):=by
 rcases h with⟨rfl,rfl⟩|⟨rfl,rfl⟩
 ·right
  refine⟨rfl,?_⟩
  rw[Int.natCast_add,Int.natCast_mul];omega
 ·left
  refine⟨rfl,?_⟩
  rw[Int.natCast_add,Int.natCast_mul,Int.mul_neg];omega
theorem opp_inv{x y q r U V p:Nat}(hx:x=q*y+r)(h:y*U+x*V=p):r*V+y*(U+q*V)=p:=by
 subst hx;rw[←h];grind
theorem le_of_inv{y U r V p:Nat}(hy:0<y)(h:r*V+y*U=p):U≤p:=by
 have:=Nat.le_mul_of_pos_left U hy;omega
theorem inv_loop:∀(y x p a U V:Nat) (u v:Int) (e:En) (k:X→En→Zt→Prop),0<p→p≤2147483647→y<x→x≤p→Nat.gcd x y=1→Opp u v U V→y*U+x*V=p→U≤p→
  (p:Int)∣(x:Int)-u*(a:Int)→(p:Int)∣(y:Int)-v*(a:Int)→
  e 6=.int .i64 (x:Int)→e 7=.int .i64 (y:Int)→e 8=.int .i64 u→e 9=.int .i64 v→e 1=.int .u64 (p:Int)→
  (∀(u':Int) (e':En),-(p:Int)≤u'→u'≤p→(p:Int)∣1-u'*(a:Int)→e' 8=.int .i64 u'→e' 1=.int .u64 (p:Int)→k (.exit 0) e' [])→DenP cT 44 (.loop L127_0) e [] k:=by
 intro y
 induction y using Nat.strongRecOn with
 |ind y ih=>
  intro x p a U V u v e k hp hp2 hyx hxp hg hopp hinv hU hdx hdy h6 h7 h8 h9 h1 hk
  refine L127_0_ok ?_
  unfold TL127_0
  simp only[h6,h7,h8,h9,b_neq,ws]
  refine condP_dec (fun hne=>?_) (fun hz=>?_)
  ·have hy0:0<y:=by omega
   refine wo (b_quo (by omega)) ?_
   have hqle:x/y≤x:=Nat.div_le_self x y
   have hdm:=Nat.div_add_mod x y
   have hrlt:=Nat.mod_lt x hy0
   have e1:wrS .i64 ((x:Int).tdiv (y:Int))=((x/y:Nat):Int):=by
    rw[Int.tdiv_eq_ediv_of_nonneg (by omega)]
    have e:(x:Int)/(y:Int)=((x/y:Nat):Int):=by simp
    rw[e];generalize x/y=t at hqle ⊢;exact wrap64 (by omega) (by omega)
   rw[e1]
   have hstep:=opp_inv (q:=x/y) (r:=x%y) (U:=U) (V:=V) (by rw[Nat.mul_comm];exact hdm.symm) hinv
   have hV':=le_of_inv hy0 hstep
   have hopp':=opp_step (q:=x/y) hopp
   have hgcd:Nat.gcd y (x%y)=1:=by rw[←hg,Nat.gcd_comm x y,Nat.gcd_rec y x,Nat.gcd_comm]
   have hVp:V≤p:=by have:=Nat.le_mul_of_pos_left V (show 0<x by omega);omega
   have hdr:(p:Int)∣((x%y:Nat):Int)-(u-((x/y:Nat):Int)*v)*(a:Int):=by
    have e2:((x%y:Nat):Int)=(x:Int)-((x/y:Nat):Int)*(y:Int):=by
     have:((y*(x/y)+x%y:Nat):Int)=(x:Int):=by rw[hdm]
     rw[Int.natCast_add,Int.natCast_mul]at this
     rw[Int.mul_comm];omega
    rw[e2]
    obtain⟨s,hs⟩:=hdx
    obtain⟨t,ht⟩:=hdy
    refine⟨s-((x/y:Nat):Int)*t,?_⟩
    generalize ((x/y:Nat):Int)=q
    grind
   simp only[b_mul,ws,b_sub]
   have hqy:y*(x/y)≤x:=by omega
   have e3:((x/y:Nat):Int)*(y:Int)=((y*(x/y):Nat):Int):=by rw[Int.natCast_mul,Int.mul_comm]
   have hqV:(x/y)*V≤p:=by omega
   have e4:-(p:Int)≤((x/y:Nat):Int)*v∧((x/y:Nat):Int)*v≤p:=by
    have:(((x/y)*V:Nat):Int)=((x/y:Nat):Int)*(V:Int):=Int.natCast_mul _ _
    rcases hopp with⟨_,hv⟩|⟨_,hv⟩
    ·rw[hv,←this];omega
    ·rw[hv,Int.mul_neg,←this];omega
   have e5:-(p:Int)≤u-((x/y:Nat):Int)*v∧u-((x/y:Nat):Int)*v≤p:=by
    rcases hopp' with⟨_,hv⟩|⟨_,hv⟩<;>rw[hv]<;>omega
   rw[e3,wrap64 (n:=((y*(x/y):Nat):Int)) (by omega) (by omega),wrap64 (n:=((x/y:Nat):Int)*v) (by omega) (by omega),wrap64 (n:=u-((x/y:Nat):Int)*v) (by omega) (by omega)]
   have e6:(x:Int)-((y*(x/y):Nat):Int)=((x%y:Nat):Int):=by omega
   rw[e6,wrap64 (n:=((x%y:Nat):Int)) (by omega) (by omega)]
   exact ih (x%y) hrlt y p a V (U+x/y*V) v _ _ k hp hp2 hrlt (by omega) hgcd hopp' hstep hVp hdy hdr rfl rfl rfl rfl h1 hk
  ·have hy0:y=0:=by omega
   subst hy0
   rw[Nat.gcd_zero_right]at hg
   subst hg
   refine hk u _ ?_ ?_ hdx h8 h1
   ·rcases hopp with⟨hu,_⟩|⟨hu,_⟩<;>omega
   ·rcases hopp with⟨hu,_⟩|⟨hu,_⟩<;>omega
theorem conv2{k':IntKind}{n:Int}:convS y2 (.int k' n)=some (.int .i64 (wrS .i64 n)):=conv_int rfl rfl
theorem conv25{k':IntKind}{n:Int}:convS y25 (.int k' n)=some (.int .u64 (wrS .u64 n)):=conv_int rfl rfl
theorem m_inv{a p:Nat}{Q:SV→Prop}(hp:IsP p)(hp2:p≤2147483647)(ha:¬p∣a)(h:∀i,Iv p a i→Q (.tup [.int .u64 (i:Int),.int .i64 0])) :
  wpO (pW cT 127 [.int .u64 (a:Int),.int .u64 (p:Int)]) Q:=by
 refine po rfl (F127_ok (k:=fun v S=>wpO (frz S dS v) Q) ?_)
 unfold F127
 have h2:=hp.1
 have hne:a%p≠0:=fun e=>ha (Nat.dvd_of_mod_eq_zero e)
 have hlt:=Nat.mod_lt a (show 0<p by omega)
 rw[conv2,ws]
 refine wo (b_remN (by omega)) ?_
 rw[conv2,ws]
 rw[wrap64 (n:=(p:Int)) (by omega) (by omega),wrap64 (n:=((a%p:Nat):Int)) (by omega) (by omega)]
 simp only[b_eql,ws]
 rw[decide_eq_false (by omega),cf_]
 have hg:Nat.gcd p (a%p)=1:=hp.coprime (fun hd=>hne (Nat.eq_zero_of_dvd_of_lt hd hlt))
 have hda:(p:Int)∣((a%p:Nat):Int)-1*(a:Int):=by
  refine⟨-((a/p:Nat):Int),?_⟩
  have hdm:=Nat.div_add_mod a p
  have:((p*(a/p)+a%p:Nat):Int)=(a:Int):=by rw[hdm]
  rw[Int.natCast_add,Int.natCast_mul]at this
  rw[Int.mul_neg];omega
 refine inv_loop (a%p) p p a 0 1 0 1 _ _ (by omega) hp2 hlt (Nat.le_refl _) hg (.inl ⟨rfl,rfl⟩) (by omega) (by omega) (by simp) hda rfl rfl rfl rfl rfl (fun u e' hu1 hu2 hdu h8 h1=>?_)
 refine K127_0e0_ok ?_
 unfold TK127_0e0
 rw[h8,h1,conv2,ws]
 rw[wrap64 (n:=(p:Int)) (by omega) (by omega)]
 simp only[b_add,ws]
 try rw[conv2,ws]
 rw[wrap64 (n:=u+(p:Int)) (by omega) (by omega)]
 try rw[wrap64 (n:=(p:Int)) (by omega) (by omega)]
 refine wo (b_rem (by omega)) ?_
 rw[conv25,ws]
 have hr0:=Int.emod_nonneg (u+(p:Int)) (show(p:Int)≠0 by omega)
 have hr1:=Int.emod_lt_of_pos (u+(p:Int)) (show 0<(p:Int)by omega)
 have hdm:=Int.mul_ediv_add_emod (u+(p:Int)) (p:Int)
 rw[Int.tmod_eq_emod_of_nonneg (by omega)]
 generalize (u+(p:Int))%(p:Int)=r at hr0 hr1 hdm ⊢
 generalize (u+(p:Int))/(p:Int)=q at hdm
 obtain⟨i,rfl⟩:=Int.eq_ofNat_of_zero_le hr0
 rw[wrapU64 (by omega) (by omega)]
 refine h i ⟨by omega,?_⟩
 obtain⟨s,hs⟩:=hdu
 refine⟨(1-q)*(a:Int)-s,?_⟩
 have e:(i:Int)=u+(p:Int)-(p:Int)*q:=by omega
 rw[e]
 clear hdm e hr0 hr1
 grind
def wit:List Nat:=[2,3,5,7]
def witV:SV:=.agg [.int .u64 2,.int .u64 3,.int .u64 5,.int .u64 7]
theorem m_wit{Q:SV→Prop}(h:Q witV):wpO (pW cT 125 []) Q:=by
 refine po rfl (F125_ok (k:=fun v S=>wpO (frz S dS v) Q) ?_)
 unfold F125
 iterate 4 refine wo rfl ?_
 exact h
theorem wit_at{i w:Nat}(h:wit[i]?=some w):indexS cT y149 witV (.int .i64 (i:Int))=some (.int .u64 (w:Int)):=by
 match i,h with
 |0,h=>cases h;rfl
 |1,h=>cases h;rfl
 |2,h=>cases h;rfl
 |3,h=>cases h;rfl
 |n+4,h=>simp[wit]at h
theorem wit_isP{i w:Nat}(h:wit[i]?=some w):IsP w:=by
 have key:∀w∈wit,∀d,d<8→d∣w→d=1∨d=w:=by decide
 have k2:∀w∈wit,2≤w∧w<8:=by decide
 have hm:=List.mem_of_getElem? h
 refine⟨(k2 w hm).1,fun d hd=>key w hm d ?_ hd⟩
 have:=Nat.le_of_dvd (by have:=k2 w hm;omega) hd
 have:=k2 w hm
 omega
theorem twos_loop:∀(d s n:Nat) (e:En) (k:X→En→Zt→Prop),0<d→d<2147483648→d*2^s=n→s≤31→2^s*d<2147483648→e 3=.int .u64 (d:Int)→e 4=.int .i64 (s:Int)→
  (∀(d' s':Nat) (e':En),d'<2147483648→d'*2^s'=n→s'≤31→e' 3=.int .u64 (d':Int)→e' 4=.int .i64 (s':Int)→e' 0=e 0→k (.exit 0) e' [])→DenP cT 65 (.loop L57_0) e [] k:=by
 intro d
 induction d using Nat.strongRecOn with
 |ind d ih=>
  intro s n e k hd0 hd hn hs hb h3 h4 hk
  refine L57_0_ok ?_
  unfold TL57_0
  simp only[h3,h4]
  refine wo (b_remN (p:=2) (by omega)) ?_
  simp only[b_eql,ws]
  refine condP_dec (fun hev=>?_) (fun _=>?_)
  ·refine wo (b_quoN (p:=2) (by omega) (by omega)) ?_
   simp only[b_add,ws]
   have e1:d=d/2*2:=by omega
   have e2:2^s*d=2^(s+1)*(d/2):=by rw[Nat.pow_succ,Nat.mul_assoc,Nat.mul_comm 2 (d/2),←e1]
   have hs2:s+1≤31:=by
    rcases Nat.lt_or_ge s 31 with h|h
    ·omega
    ·have h1:s=31:=by omega
     subst h1
     have:2^31*1≤2^31*d:=Nat.mul_le_mul_left _ hd0
     omega
   rw[wrap64 (by omega) (by omega)]
   refine ih (d/2) (by omega) (s+1) n _ k (by omega) (by omega) ?_ hs2 (by rw[←e2];exact hb) rfl (by rfl) hk
   rw[←hn,Nat.mul_comm,←e2,Nat.mul_comm]
  ·exact hk d s _ hd hn hs h3 h4 rfl
theorem sq_succ{p x j:Nat}:Pl.sq p x (j+1)=Pl.sq p x j*Pl.sq p x j%p:=rfl
theorem pass_loop:∀(m j s p x:Nat) (b:Bool) (e:En) (k:X→En→Zt→Prop),j+m+1=s→s≤31→1<p→p≤2147483647→x<p→e 0=.int .u64 (p:Int)→e 7=.int .u64 ((Pl.sq p x j:Nat):Int)→e 8=.bool b→e 44=.int .i64 ((s:Int)-1)→e 45=.int .i64 (j:Int)→
  (b=true∨∃i,j<i∧i<s∧Pl.sq p x i=p-1)→
  (∀(e':En),e' 8=.bool true→e' 0=e 0→e' 24=e 24→e' 25=e 25→e' 3=e 3→e' 4=e 4→k (.exit 4) e' [])→DenP cT 65 (.loop L57_2) e [] k:=by
 intro m
 induction m with
 |zero=>
  intro j s p x b e k hj hs hp hp2 hx h0 h7 h8 h44 h45 hb hk
  refine L57_2_ok ?_
  unfold TL57_2
  simp only[h44,h45,b_lss,ws]
  rw[decide_eq_false (by omega),cf_]
  rcases hb with hb|⟨i,h1,h2,_⟩
  ·subst hb;exact hk _ h8 rfl rfl rfl rfl rfl
  ·omega
 |succ m ih=>
  intro j s p x b e k hj hs hp hp2 hx h0 h7 h8 h44 h45 hb hk
  have hlt:=Pl.sq_lt (p:=p) (x:=x) (by omega) hx j
  refine L57_2_ok ?_
  unfold TL57_2
  simp only[h0,h7,h8,h44,h45,b_lss,ws,b_mul]
  rw[decide_eq_true (by omega),condP_t,mulU (by omega) (by omega)]
  refine wo (b_remN (by omega)) ?_
  rw[←sq_succ]
  have e1:wrS .i64 ((j:Int)+1)=((j+1:Nat):Int):=by rw[wrap64 (by omega) (by omega)];rfl
  cases b with
  |true=>
   simp only[grdP_tf,pickS_t,ws,b_add,e1]
   exact ih (j+1) s p x true _ k (by omega) hs hp hp2 hx h0 rfl rfl h44 rfl (.inl rfl) hk
  |false=>
   simp only[grdP_ff,pickS_f,ws,b_add,e1,b_sub,b_eql]
   have e2:wrS .u64 ((p:Int)-1)=((p-1:Nat):Int):=subU (b:=1) (by omega) (by omega)
   rw[e2]
   refine ih (j+1) s p x (decide (((Pl.sq p x (j+1):Nat):Int)=((p-1:Nat):Int))) _ k (by omega) hs hp hp2 hx h0 rfl rfl h44 rfl ?_ hk
   rcases hb with hb|⟨i,h1,h2,h3⟩
   ·cases hb
   ·by_cases hi:i=j+1
    ·left;subst hi;rw[decide_eq_true];omega
    ·right;exact⟨i,by omega,h2,h3⟩
theorem wit_loop:∀(m i d s p:Nat) (e:En) (k:X→En→Zt→Prop),i+m=4→IsP p→p≤2147483647→d<2147483648→d*2^s=p-1→s≤31→e 0=.int .u64 (p:Int)→e 24=witV→e 25=.int .i64 (i:Int)→e 3=.int .u64 (d:Int)→e 4=.int .i64 (s:Int)→
  (∀(e':En),e' 2=.bool true→k .ret e' [])→(∀(e':En),e' 0=.int .u64 (p:Int)→k (.exit 2) e' [])→DenP cT 65 (.loop L57_1) e [] k:=by
 intro m
 induction m with
 |zero=>
  intro i d s p e k hi hp hp2 hd hds hs h0 h24 h25 h3 h4 hk1 hk2
  refine L57_1_ok ?_
  unfold TL57_1
  simp only[h25,b_lss,ws]
  rw[decide_eq_false (by omega),cf_]
  exact hk2 _ h0
 |succ m ih=>
  intro i d s p e k hi hp hp2 hd hds hs h0 h24 h25 h3 h4 hk1 hk2
  have hp1:=hp.1
  refine L57_1_ok ?_
  unfold TL57_1
  simp only[h0,h24,h25,h3,h4,b_lss,ws]
  rw[decide_eq_true (by omega),condP_t]
  obtain⟨w,hw⟩:∃w,wit[i]?=some w:=⟨wit[i]'(by simp[wit];omega),by simp⟩
  have hwP:=wit_isP hw
  refine wo (wit_at hw) ?_
  have e1:wrS .i64 ((i:Int)+1)=((i+1:Nat):Int):=by rw[wrap64 (by omega) (by omega)];rfl
  simp only[b_eql,ws,b_add,e1]
  refine condP_dec (fun heq=>hk1 _ rfl) (fun hne=>?_)
  have hnd:¬p∣w:=fun hd=>by
   rcases hwP.2 p hd with h|h<;>omega
  refine cpu rfl rfl (m_pow (by omega) (by omega) (by omega) ?_)
  have hxlt:=Nat.mod_lt (w^d) (show 0<p by omega)
  have hmr:=Pl.mr (s:=s) hp hnd hds rfl
  generalize w^d%p=x at hxlt hmr ⊢
  simp only[b_eql,ws]
  have e2:wrS .u64 ((p:Int)-1)=((p-1:Nat):Int):=subU (b:=1) (by omega) (by omega)
  have next:∀e':En,e' 0=e 0→e' 24=e 24→e' 25=.int .i64 ((i+1:Nat):Int)→e' 3=e 3→e' 4=e 4→DenP cT 65 (.loop L57_1) e' [] k:=by
   intro e' g0 g24 g25 g3 g4
   exact ih (i+1) d s p e' k (by omega) hp hp2 hd hds hs (g0.trans h0) (g24.trans h24) g25 (g3.trans h3) (g4.trans h4) hk1 hk2
  have rounds:x≠1→x≠p-1→∀e':En,e' 0=e 0→e' 24=e 24→e' 25=e 25→e' 3=e 3→e' 4=e 4→e' 7=.int .u64 (x:Int)→e' 8=.bool false→e' 44=.int .i64 ((s:Int)-1)→e' 45=.int .i64 0→DenP cT 65 (.loop L57_2) e' [] (K57_2 k):=by
   intro hx1 hx2 e' g0 g24 g25 g3 g4 g7 g8 g44 g45
   rcases hmr with h|⟨j,hj1,hj2⟩
   ·exact absurd h hx1
   have hj0:0<j:=by
    rcases Nat.eq_zero_or_pos j with h|h
    ·subst h;exact absurd hj2 hx2
    ·exact h
   refine pass_loop (s-1) 0 s p x false e' _ (by omega) hs (by omega) hp2 hxlt (g0.trans h0) g7 g8 g44 g45 (.inr ⟨j,hj0,hj1,hj2⟩) ?_
   intro e2 f8 f0 f24 f25 f3 f4
   refine K57_2e4_ok ?_
   unfold TK57_2e4
   rw[f8]
   simp only[u_not,Bool.not_true,ws,cf_,f25,g25,h25,b_add,e1]
   refine next _ ?_ ?_ rfl ?_ ?_
   ·exact f0.trans g0
   ·exact f24.trans g24
   ·exact f3.trans g3
   ·exact f4.trans g4
  have e3:wrS .i64 ((s:Int)-1)=(s:Int)-1:=wrap64 (by omega) (by omega)
  by_cases hx1:x=1
  ·rw[decide_eq_true (by omega)]
   simp only[grdP_tf,pickS_t,ws,condP_t]
   exact next _ rfl rfl rfl rfl rfl
  ·rw[decide_eq_false (by omega)]
   simp only[grdP_ff,pickS_f,ws,b_sub,e2,b_eql]
   refine condP_dec (fun _=>next _ rfl rfl rfl rfl rfl) (fun hx2=>?_)
   rw[e3]
   exact rounds hx1 (by omega) _ rfl rfl rfl rfl rfl rfl rfl rfl rfl
theorem m_prime{p:Nat}{Q:SV→Prop}(hp:IsP p)(hp2:p≤2147483647)(h:Q (.bool true)):wpO (pW cT 57 [.int .u64 (p:Int)]) Q:=by
 refine po rfl (F57_ok (k:=fun v S=>wpO (frz S dS v) Q) ?_)
 unfold F57
 have hp1:=hp.1
 simp only[b_lss,ws]
 rw[decide_eq_false (by omega)]
 simp only[grdP_ff,b_geq,ws,pickS_f,b_sub]
 rw[decide_eq_false (by omega),cf_]
 have e2:wrS .u64 ((p:Int)-1)=((p-1:Nat):Int):=subU (b:=1) (by omega) (by omega)
 rw[e2]
 refine twos_loop (p-1) 0 (p-1) _ _ (by omega) (by omega) (by simp) (by omega) (by simp;omega) rfl rfl (fun d s e' hd hds hs h3 h4 h0=>?_)
 refine K57_0e0_ok ?_
 unfold TK57_0e0
 refine cpu rfl rfl (m_wit ?_)
 refine wit_loop 4 0 d s p _ _ (by omega) hp hp2 hd hds hs (h0.trans rfl) rfl rfl h3 h4 (fun e2 g2=>?_) (fun e2 g0=>?_)
 ·refine K57_1r_ok ?_
  unfold TK57_1r
  rw[g2];exact h
 ·refine K57_1e2_ok ?_
  unfold TK57_1e2
  rw[g0]
  simp only[b_gtr,ws]
  rw[decide_eq_true (by omega)]
  exact h
open Pl (Rd Cg en tm Mo PF)
theorem len22(l:List Nat)(c:VC):lenS y22 (.vsl (u64s l) c)=some (.int .i64 (l.length:Int)):=by rw[len_vsl rfl,u64s_len]
theorem idx22{l:List Nat}{c:VC}{i d:Nat}(h:l[i]?=some d):ixS cT y22 (.vsl (u64s l) c) (.int .i64 (i:Int))=some (.vptr (.int .u64 (d:Int))):=idx_vsl rfl rfl (by decide) (u64s_get h) rfl
theorem ld25{S:Zt}{d:Nat}:ldS y25 S (.vptr (.int .u64 (d:Int)))=some (.int .u64 (d:Int)):=rfl
theorem sI{i:Nat}(h:i<9223372036854775807):wrS .i64 ((i:Int)+1)=((i+1:Nat):Int):=by rw[wrap64 (by omega) (by omega)];rfl
theorem pI{i:Nat}(h0:0<i)(h:i<9223372036854775807):wrS .i64 ((i:Int)-1)=((i-1:Nat):Int):=by rw[wrap64 (by omega) (by omega)];omega
theorem u64s_snoc(l:List Nat)(d:Nat):u64s l++[SV.int .u64 (d:Int)]=u64s (l++[d]):=by simp[u64s]
theorem push64{S:Zt}{v:SV}{l:List Nat}{d b:Nat}{k:SV×Zt→SV×Zt→Prop}(hO:OwnA S v 1 (u64s l) b)(hl:l.length<1000000)
  (h:∀p v' S',OwnA S' v' 1 (u64s (l++[d])) b→Kp S S' b→k p (v',S')):wpO (bslS y25 1 [(0,.int .u64 (d:Int))] S) fun p=>wpO (appS y25 p.2 v p.1) fun q=>k p q:=by
 refine push (j:=y25) hO (by decide) rfl rfl rfl rfl (by decide) (by rw[u64s_len];show(l.length+1)*8≤_;unfold roomS;omega) (by rw[u64s_len];unfold roomS;omega) (fun p v' S' h1 h2=>?_)
 rw[u64s_snoc]at h1
 exact h p v' S' h1 h2
theorem trim1_loop:∀(m i:Nat) (l:List Nat) (c:VC) (p:Nat) (S:Zt) (e:En) (k:X→En→Zt→Prop),i+m=l.length→l.length<1000000→0<p→e 0=.vsl (u64s l) c→e 1=.int .u64 (p:Int)→e 6=.int .i64 (i:Int)→OwnA S (e 5) 1 (u64s ((l.take i).map (·%p))) 0→
  (∀(e':En) (S':Zt),OwnA S' (e' 5) 1 (u64s (l.map (·%p))) 0→k (.exit 0) e' S')→DenP cT 41 (.loop L10_0) e S k:=by
 intro m
 induction m with
 |zero=>
  intro i l c p S e k hi hl hp h0 h1 h6 hO hk
  refine L10_0_ok ?_
  unfold TL10_0
  simp only[h0,h6,len22,b_lss,ws]
  rw[decide_eq_false (by omega),cf_]
  refine hk _ S ?_
  have:l.take i=l:=List.take_of_length_le (by omega)
  rw[this]at hO
  exact hO
 |succ m ih=>
  intro i l c p S e k hi hl hp h0 h1 h6 hO hk
  obtain⟨d,hd⟩:∃d,l[i]?=some d:=⟨l[i]'(by omega),by simp⟩
  refine L10_0_ok ?_
  unfold TL10_0
  simp only[h0,h1,h6,len22,b_lss,ws,idx22 hd,ld25]
  rw[decide_eq_true (by omega),condP_t]
  refine wo (b_remN hp) ?_
  refine push64 hO (by simp;omega) (fun pp v' S' h2 _=>?_)
  simp only[b_add,ws]
  rw[sI (by omega)]
  refine ih (i+1) l c p S' _ k (by omega) hl hp h0 h1 rfl ?_ hk
  have:(l.take (i+1)).map (·%p)=(l.take i).map (·%p)++[d%p]:=by rw[List.take_add_one,hd];simp
  rw[this]
  exact h2
theorem trim2_loop:∀(l:List Nat) (S:Zt) (e:En) (k:X→En→Zt→Prop),l.length<1000000→Own S (e 5) 1 (u64s l) 0→
  (∀(e':En) (S':Zt),Own S' (e' 5) 1 (u64s (trimL l)) 0→k (.exit 2) e' S')→DenP cT 41 (.loop L10_1) e S k:=by
 intro l
 induction l using snoc_ind with
 |h0=>
  intro S e k hl hO hk
  refine L10_1_ok ?_
  unfold TL10_1
  refine wo (hO.len rfl) ?_
  simp only[u64s_len,b_gtr,ws,List.length_nil]
  rw[decide_eq_false (by simp)]
  simp only[grdP_ft,pickS_f,ws,cf_]
  exact hk _ S hO
 |h l d ih=>
  intro S e k hl hO hk
  have hlen:(l++[d]).length=l.length+1:=by simp
  rw[hlen]at hl
  rw[trimL_snoc]at hk
  refine L10_1_ok ?_
  unfold TL10_1
  have e1:lenS y22 (e 5)=some (.int .i64 ((l.length+1:Nat):Int)):=by rw[hO.len rfl,u64s_len,hlen]
  simp only[e1,b_gtr,ws]
  rw[decide_eq_true (by omega)]
  refine grdT rfl (grdT rfl (grdT rfl (wo e1 (grdT rfl (wo b_sub ?_)))))
  rw[pI (by omega) (by omega),Nat.add_sub_cancel]
  obtain⟨pp,hp1,hp2⟩:=Own.ptr (cfg:=cT) (i:=y22) (t:=25) (j:=y25) (e:=.int .u64 (d:Int)) (w:=.int .u64 (d:Int)) (n:=l.length) (k:=.i64) hO rfl rfl (by decide) (u64s_get (by rw[List.getElem?_append_right (Nat.le_refl _)];simp)) rfl
  refine grdT rfl (wo hp1 (grdT rfl (wo hp2 (grdT rfl (wo b_eql ?_)))))
  simp only[pickS_t,ws,e1,b_sub]
  rw[pI (by omega) (by omega),Nat.add_sub_cancel]
  refine condP_dec (fun hz=>?_) (fun hz=>?_)
  ·obtain⟨v',hv,hO'⟩:=hO.cut (j:=y25) (n:=l.length) (k:=.i64) (by decide) (by simp) (fun _ _ _=>trivial)
   refine wo hv ?_
   rw[u64s_take,List.take_left]at hO'
   refine ih S _ k (by omega) hO' ?_
   rw[if_pos (by omega)]at hk
   exact hk
  ·rw[if_neg (by omega)]at hk
   exact hk _ S hO
theorem r_trim{l:List Nat}{c:VC}{p:Nat}{Q:SV→Prop}(hl:l.length<1000000)(hp:0<p)(h:∀c',c'≠.nil→Q (.vsl (u64s (tm p l)) c')):wpO (pW cT 10 [.vsl (u64s l) c,.int .u64 (p:Int)]) Q:=by
 refine po rfl (F10_ok (k:=fun v S=>wpO (frz S dS v) Q) ?_)
 unfold F10
 refine Own.bsl (by decide) rfl (fun v S' hO _ _=>?_)
 refine trim1_loop l.length 0 l c p S' _ _ (by omega) hl hp rfl rfl rfl hO (fun e' S2 hO2=>?_)
 refine K10_0e0_ok ?_
 unfold TK10_0e0
 refine trim2_loop (l.map (·%p)) S2 e' _ (by simpa using hl) hO2.own (fun e3 S3 hO3=>?_)
 refine K10_1e2_ok ?_
 unfold TK10_1e2
 exact hO3.frz u64s_pure h
theorem r_at{l:List Nat}{c:VC}{i:Nat}{Q:SV→Prop}(h:Q (.int .u64 ((l[i]?.getD 0:Nat):Int))):wpO (pW cT 136 [.vsl (u64s l) c,.int .i64 (i:Int)]) Q:=by
 refine po rfl (F136_ok (k:=fun v S=>wpO (frz S dS v) Q) ?_)
 unfold F136
 simp only[len22,b_lss,ws]
 refine condP_dec (fun hi=>?_) (fun hi=>?_)
 ·obtain⟨d,hd⟩:∃d,l[i]?=some d:=⟨l[i]'(by omega),by simp⟩
  rw[hd]at h
  refine wo (idx22 hd) ?_
  exact h
 ·have:l[i]?=none:=by rw[List.getElem?_eq_none_iff];omega
  rw[this]at h
  exact h
theorem sub_loop:∀(m i:Nat) (a b:List Nat) (c d:VC) (p:Nat) (S:Zt) (e:En) (k:X→En→Zt→Prop),i+m=max a.length b.length→max a.length b.length<1000000→0<p→p≤2147483647→(∀x∈a,x<p)→(∀x∈b,x<p)→
  e 0=.vsl (u64s a) c→e 1=.vsl (u64s b) d→e 2=.int .u64 (p:Int)→e 8=.int .i64 (i:Int)→OwnA S (e 7) 1 (u64s ((List.range i).map (Pl.subN p a b))) 0→
  (∀(e':En) (S':Zt),OwnA S' (e' 7) 1 (u64s ((List.range (max a.length b.length)).map (Pl.subN p a b))) 0→e' 2=.int .u64 (p:Int)→k (.exit 0) e' S')→DenP cT 37 (.loop L71_0) e S k:=by
 intro m
 induction m with
 |zero=>
  intro i a b c d p S e k hi hl hp hp2 ha hb h0 h1 h2 h8 hO hk
  refine L71_0_ok ?_
  unfold TL71_0
  simp only[h0,h1,h8,len22,b_lss,ws]
  rw[decide_eq_false (by omega)]
  simp only[grdP_ff,len22,ws,b_lss,pickS_f]
  rw[decide_eq_false (by omega),cf_]
  have hi2:i=max a.length b.length:=by omega
  subst hi2
  exact hk _ S hO h2
 |succ m ih=>
  intro i a b c d p S e k hi hl hp hp2 ha hb h0 h1 h2 h8 hO hk
  have hla:=Pl.getD_lt hp ha i
  have hlb:=Pl.getD_lt hp hb i
  refine L71_0_ok ?_
  unfold TL71_0
  simp only[h0,h1,h2,h8,len22,b_lss,ws]
  by_cases hca:i<a.length
  ·rw[decide_eq_true (by omega)]
   simp only[grdP_tf,pickS_t,ws,condP_t]
   refine cpu rfl rfl (r_at ?_)
   simp only[b_add,ws]
   rw[addU (by omega)]
   refine cpu rfl rfl (r_at ?_)
   simp only[b_sub,ws]
   rw[subU (by omega) (by omega)]
   refine push64 hO (by simp;omega) (fun pp v' S' hO' _=>?_)
   rw[sI (by omega)]
   refine ih (i+1) a b c d p S' _ k (by omega) hl hp hp2 ha hb h0 h1 h2 rfl ?_ hk
   rw[List.range_succ,List.map_append]
   exact hO'
  ·rw[decide_eq_false (by omega)]
   simp only[grdP_ff,len22,ws,b_lss,pickS_f]
   rw[decide_eq_true (by omega),condP_t]
   refine cpu rfl rfl (r_at ?_)
   simp only[b_add,ws]
   rw[addU (by omega)]
   refine cpu rfl rfl (r_at ?_)
   simp only[b_sub,ws]
   rw[subU (by omega) (by omega)]
   refine push64 hO (by simp;omega) (fun pp v' S' hO' _=>?_)
   rw[sI (by omega)]
   refine ih (i+1) a b c d p S' _ k (by omega) hl hp hp2 ha hb h0 h1 h2 rfl ?_ hk
   rw[List.range_succ,List.map_append]
   exact hO'
theorem r_sub{a b:List Nat}{c d:VC}{p:Nat}{Q:SV→Prop}(hla:a.length<1000000)(hlb:b.length<1000000)(hp:0<p)(hp2:p≤2147483647)(ha:∀x∈a,x<p)(hb:∀x∈b,x<p)
  (h:∀r c',Rd p r→Cg p (en r) (fun x=>en a x-en b x)→Q (.vsl (u64s r) c')):wpO (pW cT 71 [.vsl (u64s a) c,.vsl (u64s b) d,.int .u64 (p:Int)]) Q:=by
 refine po rfl (F71_ok (k:=fun v S=>wpO (frz S dS v) Q) ?_)
 unfold F71
 refine Own.bsl (by decide) rfl (fun v S' hO _ _=>?_)
 refine sub_loop (max a.length b.length) 0 a b c d p S' _ _ (by omega) (by omega) hp hp2 ha hb rfl rfl rfl rfl hO (fun e' S2 hO2 h2=>?_)
 refine K71_0e0_ok ?_
 unfold TK71_0e0
 rw[h2]
 obtain⟨c',_,hf⟩:=fz_own hO2.own u64s_pure
 refine call_fz2 (b:=0) rfl hf (fz_pure rfl) (fun S3 _=>r_trim (by simp;omega) hp fun c2 _=>?_)
 exact h _ c2 (Pl.tm_rd hp _) ((Pl.tm_cg p _).trans (Pl.subN_cg hp ha hb))
theorem mulU2{o x y p:Nat}(ho:o<p)(hx:x<p)(hy:y<p)(hp:p≤2147483647):wrS .u64 ((o:Int)+wrS .u64 ((x:Int)*(y:Int)))=((o+x*y:Nat):Int):=by
 rw[mulU (by omega) (by omega)]
 have h:x*y≤2147483647*2147483647:=Nat.mul_le_mul (by omega) (by omega)
 generalize x*y=t at h ⊢
 exact addU (by omega)
theorem rmul_inner:∀(m:Nat) (a b o:List Nat) (ca cb:VC) (i k0 p x0:Nat) (S:Zt) (e:En) (k:X→En→Zt→Prop),k0+m=b.length→i<a.length→o.length=a.length+b.length-1→o.length<1000000→0<p→p≤2147483647→(∀x∈a,x<p)→(∀x∈b,x<p)→(∀x∈o,x<p)→a[i]?=some x0→
  e 0=.vsl (u64s a) ca→e 1=.vsl (u64s b) cb→e 2=.int .u64 (p:Int)→e 8=.int .i64 (i:Int)→e 9=.int .i64 (k0:Int)→OwnA S (e 7) 1 (u64s o) 0→
  Cg p (en o) (fun x=>en (a.take i) x*en b x+x0*x^i*en (b.take k0) x)→
  (∀(o':List Nat) (e':En) (S':Zt),o'.length=o.length→(∀x∈o',x<p)→Cg p (en o') (fun x=>en (a.take i) x*en b x+x0*x^i*en (b.take b.length) x)→OwnA S' (e' 7) 1 (u64s o') 0→e' 0=e 0→e' 1=e 1→e' 2=e 2→e' 8=e 8→k (.exit 2) e' S')→
  DenP cT 63 (.loop L15_1) e S k:=by
 intro m
 induction m with
 |zero=>
  intro a b o ca cb i k0 p x0 S e k hk0 hi ho hol hp hp2 ha hb hoo hx h0 h1 h2 h8 h9 hO hv hk
  refine L15_1_ok ?_
  unfold TL15_1
  simp only[h1,h9,len22,b_lss,ws]
  rw[decide_eq_false (by omega),cf_]
  have:k0=b.length:=by omega
  subst this
  exact hk o _ S rfl hoo hv hO rfl rfl rfl rfl
 |succ m ih=>
  intro a b o ca cb i k0 p x0 S e k hk0 hi ho hol hp hp2 ha hb hoo hx h0 h1 h2 h8 h9 hO hv hk
  obtain⟨y0,hy⟩:∃y,b[k0]?=some y:=⟨b[k0]'(by omega),by simp⟩
  obtain⟨z0,hz⟩:∃z,o[i+k0]?=some z:=⟨o[i+k0]'(by omega),by simp⟩
  have hx0:=ha _ (List.mem_of_getElem? hx)
  have hy0:=hb _ (List.mem_of_getElem? hy)
  have hz0:=hoo _ (List.mem_of_getElem? hz)
  refine L15_1_ok ?_
  unfold TL15_1
  simp only[h0,h1,h2,h8,h9,len22,b_lss,ws,b_add]
  rw[decide_eq_true (by omega),condP_t]
  have eik:wrS .i64 ((i:Int)+(k0:Int))=((i+k0:Nat):Int):=by rw[wrap64 (by omega) (by omega)];omega
  rw[eik]
  clear eik
  refine Own.get (j:=y25) (e:=.int .u64 (z0:Int)) (w:=.int .u64 (z0:Int)) hO.own rfl rfl (by decide) (u64s_get hz) rfl (fun pp=>?_)
  simp only[idx22 hx,idx22 hy,ld25,ws,b_mul,b_add]
  rw[mulU2 hz0 hx0 hy0 hp2]
  refine wo (b_remN hp) ?_
  refine OwnA.put (j:=y25) (e:=.int .u64 (z0:Int)) (e':=.int .u64 (((z0+x0*y0)%p:Nat):Int)) hO rfl rfl (by decide) (u64s_get hz) rfl rfl rfl (fun pp S' hO' _ _=>?_)
  rw[sI (by omega)]
  rw[u64s_set]at hO'
  refine ih a b (o.set (i+k0) ((z0+x0*y0)%p)) ca cb i (k0+1) p x0 S' _ k (by omega) hi (by simpa using ho) (by simpa using hol) hp hp2 ha hb ?_ hx h0 h1 h2 h8 rfl hO' ?_ ?_
  ·intro u hu
   rcases List.mem_or_eq_of_mem_set hu with hu|rfl
   ·exact hoo u hu
   ·exact Nat.mod_lt _ hp
  ·refine Pl.mul_step (by omega) hx hy hv ?_
   rw[hz]
   simpa using Pl.mod_dvd p (z0+x0*y0)
  ·intro o' e' S2 h1' h2' h3' h4' g0 g1 g2 g8
   exact hk o' e' S2 (by simpa using h1') h2' h3' h4' g0 g1 g2 g8
theorem rmul_outer:∀(m:Nat) (a b o:List Nat) (ca cb:VC) (i p:Nat) (S:Zt) (e:En) (k:X→En→Zt→Prop),i+m=a.length→0<b.length→o.length=a.length+b.length-1→o.length<1000000→0<p→p≤2147483647→(∀x∈a,x<p)→(∀x∈b,x<p)→(∀x∈o,x<p)→
  e 0=.vsl (u64s a) ca→e 1=.vsl (u64s b) cb→e 2=.int .u64 (p:Int)→e 8=.int .i64 (i:Int)→OwnA S (e 7) 1 (u64s o) 0→
  Cg p (en o) (fun x=>en (a.take i) x*en b x+0)→
  (∀(o':List Nat) (e':En) (S':Zt),o'.length=o.length→(∀x∈o',x<p)→Cg p (en o') (fun x=>en a x*en b x)→OwnA S' (e' 7) 1 (u64s o') 0→e' 2=e 2→k (.exit 0) e' S')→
  DenP cT 63 (.loop L15_0) e S k:=by
 intro m
 induction m with
 |zero=>
  intro a b o ca cb i p S e k hi hb0 ho hol hp hp2 ha hb hoo h0 h1 h2 h8 hO hv hk
  refine L15_0_ok ?_
  unfold TL15_0
  simp only[h0,h8,len22,b_lss,ws]
  rw[decide_eq_false (by omega),cf_]
  have:i=a.length:=by omega
  subst this
  rw[List.take_length]at hv
  exact hk o _ S rfl hoo (hv.congr (fun _=>rfl) (fun x=>by simp)) hO rfl
 |succ m ih=>
  intro a b o ca cb i p S e k hi hb0 ho hol hp hp2 ha hb hoo h0 h1 h2 h8 hO hv hk
  obtain⟨x0,hx⟩:∃x,a[i]?=some x:=⟨a[i]'(by omega),by simp⟩
  refine L15_0_ok ?_
  unfold TL15_0
  simp only[h0,h8,len22,b_lss,ws]
  rw[decide_eq_true (by omega),condP_t]
  refine rmul_inner b.length a b o ca cb i 0 p x0 S _ _ (by omega) (by omega) ho hol hp hp2 ha hb hoo hx h0 h1 h2 h8 rfl hO (hv.congr (fun _=>rfl) (fun x=>by simp[en,Pl.nv])) ?_
  intro o' e' S' h1' h2' h3' h4' g0 g1 g2 g8
  refine K15_1e2_ok ?_
  unfold TK15_1e2
  have g8':e' 8=.int .i64 (i:Int):=g8.trans h8
  simp only[g8',b_add,ws]
  rw[sI (by omega)]
  refine ih a b o' ca cb (i+1) p S' _ k (by omega) hb0 (by omega) (by omega) hp hp2 ha hb h2' (g0.trans h0) (g1.trans h1) (g2.trans h2) rfl h4' (Pl.mul_next hx h3') ?_
  intro o2 e2 S2 q1 q2 q3 q4 q5
  exact hk o2 e2 S2 (by omega) q2 q3 q4 (q5.trans g2)
theorem r_mul{a b:List Nat}{c d:VC}{p:Nat}{Q:SV→Prop}(hl:a.length+b.length<1000000)(hp:0<p)(hp2:p≤2147483647)(ha:∀x∈a,x<p)(hb:∀x∈b,x<p)
  (h:∀r c',Rd p r→r.length≤a.length+b.length-1→Cg p (en r) (fun x=>en a x*en b x)→Q (.vsl (u64s r) c')):wpO (pW cT 15 [.vsl (u64s a) c,.vsl (u64s b) d,.int .u64 (p:Int)]) Q:=by
 refine po rfl (F15_ok (k:=fun v S=>wpO (frz S dS v) Q) ?_)
 unfold F15
 simp only[len22,b_eql,ws]
 by_cases ha0:a.length=0
 ·rw[decide_eq_true (by omega)]
  simp only[grdP_tf,pickS_t,ws,condP_t]
  have:a=[]:=List.length_eq_zero_iff.1 ha0
  subst this
  exact h [] _ (Rd.nil p) (by simp) (Cg.of_eq (fun x=>by rw[Pl.en_nil];simp))
 ·rw[decide_eq_false (by omega)]
  simp only[grdP_ff,len22,ws,b_eql,pickS_f]
  by_cases hb0:b.length=0
  ·rw[decide_eq_true (by omega),condP_t]
   have:b=[]:=List.length_eq_zero_iff.1 hb0
   subst this
   exact h [] _ (Rd.nil p) (by simp) (Cg.of_eq (fun x=>by rw[Pl.en_nil];simp))
  ·rw[decide_eq_false (by omega),cf_]
   simp only[b_add,b_sub,ws]
   have e1:wrS .i64 ((a.length:Int)+(b.length:Int))=((a.length+b.length:Nat):Int):=by rw[wrap64 (by omega) (by omega)];omega
   rw[e1,pI (by omega) (by omega)]
   refine Own.mk (by decide) rfl (by unfold roomS;omega) (by show _*8≤_;unfold roomS;omega) (fun v S' hO _ _=>?_)
   have hO2:OwnA S' v 1 (u64s (List.replicate (a.length+b.length-1) 0)) 0:=by rw[←u64s_zeros];exact hO.mono (Nat.zero_le _)
   refine rmul_outer a.length a b (List.replicate (a.length+b.length-1) 0) c d 0 p S' _ _ (by omega) (by omega) (by simp) (by simp;omega) hp hp2 ha hb (fun x hx=>by rw[(List.mem_replicate.1 hx).2];exact hp) rfl rfl rfl rfl hO2 ?_ ?_
   ·refine Cg.of_eq (fun x=>?_)
    have:=Pl.en_shift (a.length+b.length-1) [] x
    rw[List.append_nil,Pl.en_nil]at this
    rw[this];simp[Pl.en_nil]
   ·intro o' e' S2 q1 q2 q3 q4 q5
    refine K15_0e0_ok ?_
    unfold TK15_0e0
    have q5':e' 2=.int .u64 (p:Int):=q5
    rw[q5']
    obtain⟨c',_,hf⟩:=fz_own q4.own u64s_pure
    have q1':o'.length=a.length+b.length-1:=by simpa using q1
    refine call_fz2 (b:=0) rfl hf (fz_pure rfl) (fun S3 _=>r_trim (by omega) hp fun c2 _=>?_)
    exact h _ c2 (Pl.tm_rd hp _) (by have:=Pl.tm_len p o';omega) ((Pl.tm_cg p _).trans q3)
open Pl (IsDiv IsGcd Euc)
def two(q r:List Nat)(c d:VC):SV:=.agg [.vsl (u64s q) c,.vsl (u64s r) d]
theorem rdiv_loop:∀(n:Nat) (r ql b:List Nat) (cr cb:VC) (N p iv bl:Nat) (A:Int→Int) (S:Zt) (e:En) (k:X→En→Zt→Prop),r.length=n→IsP p→p≤2147483647→Rd p r→Rd p b→b≠[]→r.length≤N→N<400000→b.length<400000→ql.length=N+1-b.length→(∀x∈ql,x<p)→
  (∀j,j+b.length≤r.length→ql[j]?.getD 0=0)→b[b.length-1]?=some bl→Pl.IsP p→iv<p→(p:Int)∣(iv:Int)*(bl:Int)-1→Cg p A (fun x=>en ql x*en b x+en r x)→
  e 1=.vsl (u64s b) cb→e 2=.int .u64 (p:Int)→e 6=.optr 0 0 0→e 7=.vsl (u64s r) cr→e 9=.int .u64 (iv:Int)→OwnA S (e 8) 1 (u64s ql) 1→S[0]?=some (.cells [y125.zero] true)→
  (∀(r' ql':List Nat) (cr':VC) (e':En) (S':Zt),r'.length<b.length→ql'.length=N+1-b.length→Rd p r'→(∀x∈ql',x<p)→Cg p A (fun x=>en ql' x*en b x+en r' x)→e' 2=.int .u64 (p:Int)→e' 6=.optr 0 0 0→e' 7=.vsl (u64s r') cr'→OwnA S' (e' 8) 1 (u64s ql') 1→S'[0]?=some (.cells [y125.zero] true)→k (.exit 0) e' S')→
  DenP cT 77 (.loop L89_0) e S k:=by
 intro n
 induction n using Nat.strongRecOn with
 |ind n ih=>
  intro r ql b cr cb N p iv bl A S e k hn hp hp2 hr hb hb0 hrN hN hbN hql hqlp hz hbl _ hiv hdv hA h1 h2 h6 h7 h9 hO h0 hk
  have hp1:=hp.1
  refine L89_0_ok ?_
  unfold TL89_0
  simp only[h1,h2,h7,h9,len22,b_geq,ws,b_sub]
  by_cases hge:b.length≤r.length
  ·rw[decide_eq_true (by omega),condP_t]
   have hbp:0<b.length:=List.length_pos_iff.2 hb0
   obtain⟨rl,hrl⟩:∃x,r[r.length-1]?=some x:=⟨r[r.length-1]'(by omega),by simp⟩
   have hrlp:=hr.1 _ (List.mem_of_getElem? hrl)
   have hblp:=hb.1 _ (List.mem_of_getElem? hbl)
   have e1:wrS .i64 ((r.length:Int)-(b.length:Int))=((r.length-b.length:Nat):Int):=by rw[wrap64 (by omega) (by omega)];omega
   rw[e1,pI (by omega) (by omega)]
   refine wo (idx22 hrl) ?_
   simp only[ld25,ws,b_mul]
   rw[mulU (by omega) (by omega)]
   refine wo (b_remN (by omega)) ?_
   have hflt:=Nat.mod_lt (rl*iv) (show 0<p by omega)
   have hfd:=Pl.quo_dvd (r:=rl) hdv
   generalize hf:rl*iv%p=f at hflt hfd ⊢
   have hkq:r.length-b.length<ql.length:=by omega
   have hz0:=hz (r.length-b.length) (by omega)
   have hq0:ql[r.length-b.length]?=some 0:=by
    rw[List.getElem?_eq_getElem hkq]at hz0 ⊢
    simpa using hz0
   refine OwnA.put (j:=y25) (e:=.int .u64 ((0:Nat):Int)) (e':=.int .u64 (f:Int)) hO rfl rfl (by decide) (u64s_get hq0) rfl rfl rfl (fun pp S1 hO1 hK1 hl1=>?_)
   rw[u64s_set]at hO1
   have hS1:=hO1.own.lt
   refine Own.mk (by decide) rfl (by unfold roomS;omega) (by show _*8≤_;unfold roomS;omega) (fun v2 S2 hO2 hK2 hl2=>?_)
   have hO2':OwnA S2 v2 1 (u64s (List.replicate (r.length-b.length) 0)) S1.length:=by rw[←u64s_zeros];exact hO2
   refine Own.bsl1 (j:=y25) (x:=.int .u64 (f:Int)) (by decide) rfl rfl (by decide) (fun v3 S3 hO3 hK3 hl3=>?_)
   have hO3':OwnA S3 v3 1 (u64s [f]) S2.length:=hO3
   obtain⟨c3,_,hf3⟩:=fz_own hO3'.own u64s_pure
   refine call_fz3 (b:=S2.length) rfl hf3 (fz_pure rfl) (fz_pure rfl) (fun S4 hK4=>?_)
   refine r_mul (by simp;omega) (by omega) hp2 (fun x hx=>by simp at hx;omega) hb.1 (fun m cm hm hml hmc=>?_)
   have hO2'':OwnA S4 v2 1 (u64s (List.replicate (r.length-b.length) 0)) S1.length:=hO2'.kp (hK3.trans hK4) (Nat.le_refl _)
   simp at hml
   refine pushAll (j:=y25) (xs:=u64s m) hO2'' (by decide) rfl u64s_sizes rfl (by rw[u64s_len,u64s_len];simp;show _*8≤_;unfold roomS;omega) (by rw[u64s_len,u64s_len];simp;unfold roomS;omega) (fun v5 S5 hO5 hK5=>?_)
   rw[←u64s_append]at hO5
   obtain⟨c5,_,hf5⟩:=fz_own hO5.own u64s_pure
   refine call_fz3 (b:=S1.length) rfl (fz_pure rfl) hf5 (fz_pure rfl) (fun S6 hK6=>?_)
   have hstepp:∀x∈List.replicate (r.length-b.length) 0++m,x<p:=by
    intro x hx
    rcases List.mem_append.1 hx with hx|hx
    ·rw[(List.mem_replicate.1 hx).2];omega
    ·exact hm.1 x hx
   refine r_sub (by omega) (by simp;omega) (by omega) hp2 hr.1 hstepp (fun r' cr' hr' hrc=>?_)
   have hl2':S2.length=S1.length+1:=hl2
   have hl12:S1.length≤S2.length:=by omega
   have hKall:Kp S1 S6 S1.length:=by
    refine hK2.trans ?_
    refine(hK3.mono hl12).trans ?_
    refine(hK4.mono hl12).trans ?_
    exact hK5.trans hK6
   have hO6:OwnA S6 (e 8) 1 (u64s (ql.set (r.length-b.length) f)) 1:=hO1.kp hKall (Nat.le_refl _)
   have h06:S6[0]?=some (.cells [y125.zero] true):=hKall.at (by omega) (hK1.at (by omega) h0)
   have hrc2:Cg p (en r') (fun x=>en r x-f*x^(r.length-b.length)*en b x):=by
    refine hrc.trans ?_
    have:=(Cg.refl p (en r)).sub ((Cg.refl p (fun x=>x^(r.length-b.length))).mul hmc (PF.pow _) ((PF.en [f]).mul (PF.en b)))
    refine this.congr (fun x=>?_) (fun x=>?_)
    ·simp only[Pl.en_shift]
    ·simp only[Pl.en_single];grind
   have hlen':r'.length<r.length:=by
    refine Pl.div_less (k:=r.length-b.length) (f:=f) (a:=r) (b:=b) (by omega) hr' hb0 (by omega) ?_ hrc2
    rw[hrl,hbl];simpa using hfd
   refine ih r'.length (by omega) r' (ql.set (r.length-b.length) f) b cr' cb N p iv bl A S6 _ k rfl hp hp2 hr' hb hb0 (by omega) hN hbN (by simpa using hql) ?_ ?_ hbl hp hiv hdv (Pl.div_step hkq hz0 hrc2 hA) h1 h2 h6 rfl h9 hO6 h06 hk
   ·intro u hu
    rcases List.mem_or_eq_of_mem_set hu with hu|rfl
    ·exact hqlp u hu
    ·exact hflt
   ·intro j hj
    rw[List.getElem?_set,if_neg (by omega)]
    exact hz j (by omega)
  ·rw[decide_eq_false (by omega),cf_]
   exact hk r ql cr _ S (by omega) hql hr hqlp hA h2 h6 h7 hO h0
theorem r_div{a b:List Nat}{c d:VC}{p:Nat}{Q:SV→Prop}(hla:a.length<400000)(hlb:b.length<400000)(hp:IsP p)(hp2:p≤2147483647)(hb:Rd p b)(hb0:b≠[])
  (h:∀q r c1 c2,IsDiv p (en a) b q r→Q (two q r c1 c2)):wpO (pW cT 89 [.vsl (u64s a) c,.vsl (u64s b) d,.int .u64 (p:Int)]) Q:=by
 have hp1:=hp.1
 have hbp:0<b.length:=List.length_pos_iff.2 hb0
 refine po rfl (F89_ok (k:=fun v S=>wpO (frz S dS v) Q) ?_)
 unfold F89
 refine wo rfl ?_
 refine cpu rfl rfl (r_trim (by omega) (by omega) fun c1 _=>?_)
 have htl:=Pl.tm_len p a
 simp only[len22,b_sub,b_add,ws,max_2]
 obtain⟨bl,hbl⟩:∃x,b[b.length-1]?=some x:=⟨b[b.length-1]'(by omega),by simp⟩
 have e1:max (wrS .i64 (wrS .i64 (((tm p a).length:Int)-(b.length:Int))+1)) 0=(((tm p a).length+1-b.length:Nat):Int):=by
  rw[wrap64 (n:=((tm p a).length:Int)-(b.length:Int)) (by omega) (by omega),wrap64 (by omega) (by omega)];omega
 rw[e1,pI (by omega) (by omega)]
 refine Own.mk (by decide) rfl (by unfold roomS;omega) (by show _*8≤_;unfold roomS;omega) (fun v S1 hO hK hl=>?_)
 have hO':OwnA S1 v 1 (u64s (List.replicate ((tm p a).length+1-b.length) 0)) 1:=by rw[←u64s_zeros];exact hO
 refine wo (idx22 hbl) ?_
 simp only[ld25,ws]
 have hnd:¬p∣bl:=by have:=hb.lead hb0;rw[hbl]at this;exact this
 refine cpu rfl rfl (r_inv hp hp2 hnd fun iv hiv=>?_)
 iterate 2 refine wo rfl ?_
 have hr:=Pl.tm_rd (p:=p) (by omega) a
 have hcg:=Pl.tm_cg p a
 generalize tm p a=r0 at htl hO' hr hcg ⊢
 have hS0:S1[0]?=some (.cells [y125.zero] true):=hK.at (i:=0) (by decide) rfl
 refine rdiv_loop r0.length r0 (List.replicate (r0.length+1-b.length) 0) b c1 d r0.length p iv bl (en a) S1 _ _ rfl hp hp2 hr hb hb0 (Nat.le_refl _) (by omega) hlb (by simp) (fun x hx=>by rw[(List.mem_replicate.1 hx).2];omega) ?_ hbl hp hiv.1 hiv.2 ?_ rfl rfl rfl rfl rfl hO' hS0 ?_
 ·intro j hj
  rw[List.getElem?_replicate]
  split<;>rfl
 ·refine hcg.symm.congr (fun _=>rfl) (fun x=>?_)
  have:=Pl.en_shift (r0.length+1-b.length) [] x
  rw[List.append_nil,Pl.en_nil]at this
  rw[this];simp
 ·intro r' ql' cr' e' S' hlt hlq hr' hqp hA h2 h6 h7 hOq h0
  refine K89_0e0_ok ?_
  unfold TK89_0e0
  rw[h2,h6,h7]
  obtain⟨cq,_,hfq⟩:=fz_own hOq.own u64s_pure
  refine call_fz2 (b:=1) rfl hfq (fz_pure rfl) (fun S2 hK2=>?_)
  refine r_trim (by omega) (by omega) fun c2 _=>?_
  refine wo (x:=two (tm p ql') r' c2 cr') rfl ?_
  have h02:=hK2.at (by omega) h0
  refine wo (store_row (e:=y125.zero) (e':=two (tm p ql') r' c2 cr') h02 rfl rfl rfl rfl) ?_
  refine wo ((load_row (e:=two (tm p ql') r' c2 cr') (at_eq h02) rfl).trans (b:=some (two (tm p ql') r' c2 cr')) rfl) ?_
  refine wo (frz_pure rfl).1 ?_
  refine h _ _ _ _ ⟨Pl.tm_rd (by omega) _,hr',?_,hlt⟩
  have:=((Pl.tm_cg p ql').symm.mul (Cg.refl p (en b)) (PF.en _) (PF.en b)).add (Cg.refl p (en r'))
  exact hA.trans this
theorem r_rem{a b:List Nat}{c d:VC}{p:Nat}{Q:SV→Prop}(hla:a.length<400000)(hlb:b.length<400000)(hp:IsP p)(hp2:p≤2147483647)(hb:Rd p b)(hb0:b≠[])
  (h:∀q r c2,IsDiv p (en a) b q r→Q (.vsl (u64s r) c2)):wpO (pW cT 68 [.vsl (u64s a) c,.vsl (u64s b) d,.int .u64 (p:Int)]) Q:=by
 refine po rfl (F68_ok (k:=fun v S=>wpO (frz S dS v) Q) ?_)
 unfold F68
 refine cpu rfl rfl (r_div hla hlb hp hp2 hb hb0 fun q r c1 c2 hd=>?_)
 refine wo (x:=.vsl (u64s r) c2) rfl ?_
 refine wo (frz_pure rfl).1 ?_
 exact h q r c2 hd
theorem r_monic{a:List Nat}{c:VC}{p:Nat}{Q:SV→Prop}(hla:a.length<400000)(hp:IsP p)(hp2:p≤2147483647)(ha:Rd p a)
  (h:∀g c',(a=[]→g=[])→(a≠[]→Mo p (a.length-1) g∧∃i j:Int,Cg p (en g) (fun x=>i*en a x)∧(p:Int)∣j*i-1)→Q (.vsl (u64s g) c')):wpO (pW cT 86 [.vsl (u64s a) c,.int .u64 (p:Int)]) Q:=by
 have hp1:=hp.1
 refine po rfl (F86_ok (k:=fun v S=>wpO (frz S dS v) Q) ?_)
 unfold F86
 simp only[len22,b_eql,ws]
 by_cases h0:a=[]
 ·subst h0
  simp only[List.length_nil,Int.natCast_zero,Int.ofNat_zero,decide_true,condP_t]
  exact h [] _ (fun _=>rfl) (fun h=>absurd rfl h)
 ·have hl:0<a.length:=List.length_pos_iff.2 h0
  rw[decide_eq_false (by omega),cf_]
  simp only[b_sub,ws]
  rw[pI (by omega) (by omega)]
  obtain⟨al,hal⟩:∃x,a[a.length-1]?=some x:=⟨a[a.length-1]'(by omega),by simp⟩
  refine wo (idx22 hal) ?_
  simp only[ld25,ws]
  have hnd:¬p∣al:=by have:=ha.lead h0;rw[hal]at this;exact this
  refine cpu rfl rfl (r_inv hp hp2 hnd fun iv hiv=>?_)
  iterate 2 refine wo rfl ?_
  refine Own.bsl1 (j:=y25) (x:=.int .u64 (iv:Int)) (by decide) rfl rfl (by decide) (fun v3 S3 hO3 hK3 hl3=>?_)
  have hO3':OwnA S3 v3 1 (u64s [iv]) _:=hO3
  obtain⟨c3,_,hf3⟩:=fz_own hO3'.own u64s_pure
  refine call_fz3 (b:=0) rfl ⟨hf3.1,fun _ _=>Nat.zero_le _⟩ (fz_pure rfl) (fz_pure rfl) (fun S4 hK4=>?_)
  refine r_mul (by simp;omega) (by omega) hp2 (fun x hx=>by simp at hx;have:=hiv.1;omega) ha.1 (fun m cm hm hml hmc=>?_)
  refine wo (frz_pure rfl).1 ?_
  have hmc2:Cg p (en m) (fun x=>(iv:Int)*en a x):=hmc.congr (fun _=>rfl) (fun x=>by rw[Pl.en_single])
  refine h m cm (fun e=>absurd e h0) (fun _=>⟨Pl.monic_mo (by omega) ha h0 hm (by rw[hal];exact hiv.2) hmc2,(iv:Int),(al:Int),hmc2,?_⟩)
  have:=hiv.2
  rwa [Int.mul_comm]at this
theorem rgcd_loop:∀(n:Nat) (a b:List Nat) (ca cb:VC) (p:Nat) (A B:Int→Int) (S:Zt) (e:En) (k:X→En→Zt→Prop),b.length=n→IsP p→p≤2147483647→Rd p a→Rd p b→a.length<400000→b.length<400000→PF A→PF B→Euc p A B a b→
  e 0=.vsl (u64s a) ca→e 1=.vsl (u64s b) cb→e 2=.int .u64 (p:Int)→
  (∀(a':List Nat) (ca':VC) (e':En),Rd p a'→a'.length<400000→Euc p A B a' []→e' 0=.vsl (u64s a') ca'→e' 2=.int .u64 (p:Int)→k (.exit 0) e' S)→
  DenP cT 20 (.loop L70_0) e S k:=by
 intro n
 induction n using Nat.strongRecOn with
 |ind n ih=>
  intro a b ca cb p A B S e k hn hp hp2 ha hb hla hlb hA hB hE h0 h1 h2 hk
  refine L70_0_ok ?_
  unfold TL70_0
  simp only[h0,h1,h2,len22,b_gtr,ws]
  by_cases hb0:b=[]
  ·subst hb0
   simp only[List.length_nil]
   rw[decide_eq_false (by simp),cf_]
   exact hk a ca _ ha hla hE h0 h2
  ·have hl:0<b.length:=List.length_pos_iff.2 hb0
   rw[decide_eq_true (by omega),condP_t]
   refine cpu rfl rfl (r_rem hla hlb hp hp2 hb hb0 fun q r c2 hd=>?_)
   have:=hd.less
   exact ih r.length (by omega) b r cb c2 p A B S _ k rfl hp hp2 hb hd.hr hlb (by omega) hA hB (hE.step hA hB hd) rfl rfl h2 hk
theorem r_gcd{a b:List Nat}{c d:VC}{p:Nat}{Q:SV→Prop}(hla:a.length<400000)(hlb:b.length<400000)(hp:IsP p)(hp2:p≤2147483647)(ha:Rd p a)(hb:Rd p b)
  (h:∀g c',IsGcd p (en a) (en b) g→Q (.vsl (u64s g) c')):wpO (pW cT 70 [.vsl (u64s a) c,.vsl (u64s b) d,.int .u64 (p:Int)]) Q:=by
 refine po rfl (F70_ok (k:=fun v S=>wpO (frz S dS v) Q) ?_)
 unfold F70
 refine rgcd_loop b.length a b c d p (en a) (en b) [] _ _ rfl hp hp2 ha hb hla hlb (PF.en a) (PF.en b) (Euc.start p a b) rfl rfl rfl (fun a' ca' e' ha' hla' hE h0 h2=>?_)
 refine K70_0e0_ok ?_
 unfold TK70_0e0
 rw[h0,h2]
 refine cpu rfl rfl (r_monic hla' hp hp2 ha' fun g c' h1 h2=>?_)
 refine wo (frz_pure rfl).1 ?_
 by_cases h0:a'=[]
 ·have:=h1 h0
  subst h0;subst this
  exact h [] c' hE.done_nil
 ·obtain⟨hmo,i,j,hc,hd⟩:=h2 h0
  exact h g c' (hE.done hmo hc hd)
end Go.Proofs
