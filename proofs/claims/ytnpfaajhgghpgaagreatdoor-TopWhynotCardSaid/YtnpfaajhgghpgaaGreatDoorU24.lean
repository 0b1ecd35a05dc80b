/- A part of the joined base. -/
import Derived.Test.YtnpfaajhgghpgaaGreatDoorU06
import Derived.Shelf.SlSortCmp.KitK
set_option linter.unusedVariables false
set_option linter.unusedSectionVars false
set_option maxHeartbeats 8000000
set_option maxRecDepth 100000
namespace Go.Proofs.YtnpfaajhgghpgaaGreatDoor
open Go.Sort
variable {α : Type} [Inhabited α] {lt : α -> α -> Bool} {d d' d1 d2 : Array α} {a b m n i j e k : Nat}
structure SwpIn (a b n:Nat) (d d':Array α):Prop where
 size:d'.size=d.size
 left:∀t,t<n->d'[a+t]! = d[b+t]!
 right:∀t,t<n->d'[b+t]! = d[a+t]!
 rest:∀k,¬(a<=k/\k<a+n)->¬(b<=k/\k<b+n)->d'[k]! = d[k]!
 perm:∀lo hi,lo<=a->b+n<=hi->hi<=d.size->a+n<=b->PermIn lo hi d d'
theorem SwpIn.start (a b:Nat)(d:Array α):SwpIn a b 0 d d:=⟨rfl,fun t h=>by omega,fun t h=>by omega,fun _ _ _=>rfl,fun lo hi _ _ _ _=>permIn_refl d lo hi⟩
theorem SwpIn.next (h:SwpIn a b i d d')(hab:a+n<=b)(hi:i<n)(hb:b+n<=d.size):SwpIn a b (i+1) d (swp d' (a+i) (b+i)):=by
 have hs:=h.size;have g:=swp_get d' (show a+i<d'.size by omega) (show b+i<d'.size by omega);refine⟨by rw[swp_size,hs],fun t ht=>?_,fun t ht=>?_,fun k h1 h2=>?_,fun lo hi' h1 h2 h3 h4=>?_⟩
 ·rw[g,if_neg (by omega)];by_cases e:t=i
  ·subst e;rw[if_pos rfl];exact h.rest _ (by omega) (by omega)
  ·rw[if_neg (by omega)];exact h.left t (by omega)
 ·rw[g];by_cases e:t=i
  ·subst e;rw[if_pos rfl];exact h.rest _ (by omega) (by omega)
  ·rw[if_neg (by omega),if_neg (by omega)];exact h.right t (by omega)
 ·rw[g,if_neg (by omega),if_neg (by omega)];exact h.rest k (by omega) (by omega)
 ·exact permIn_trans d d' _ lo hi' (h.perm lo hi' h1 (by omega) h3 (by omega)) (swp_permIn d' lo hi' _ _ (by omega) (by omega) (by omega) (by omega) (by omega))
structure RotIn (a m b:Nat) (d d':Array α):Prop where
 size:d'.size=d.size
 left:∀t,t<b - m->d'[a+t]! = d[m+t]!
 right:∀t,t<m - a->d'[a+(b - m)+t]! = d[a+t]!
 rest:∀k,k<a\/b<=k->d'[k]! = d[k]!
 perm:∀lo hi,lo<=a->b<=hi->hi<=d.size->PermIn lo hi d d'
theorem RotIn.none (h:a=m\/m=b)(hab:a<=m/\m<=b)(d:Array α):RotIn a m b d d:=by
 refine⟨rfl,fun t ht=>?_,fun t ht=>?_,fun _ _=>rfl,fun lo hi _ _ _=>permIn_refl d lo hi⟩
 ·rcases h with h|h
  ·subst h;rfl
  ·omega
 ·rcases h with h|h
  ·omega
  ·subst h;rw[Nat.sub_self,Nat.add_zero]
theorem RotIn.same (h:SwpIn (m - i) m i d d')(hi:i<=m):RotIn (m - i) m (m+i) d d':=by
 refine⟨h.size,fun t ht=>h.left t (by omega),fun t ht=>?_,fun k hk=>h.rest k (by omega) (by omega),fun lo hi' h1 h2 h3=>h.perm lo hi' h1 h2 h3 (by omega)⟩;have:=h.right t (by omega);rw[show m - i+(m+i - m)+t=m+t by omega];exact this
theorem RotIn.more (hij:j<i)(hi:i<=m)(h:SwpIn (m - i) m j d1 d2)(h':RotIn (m - (i - j)) m (m+j) d2 d'):RotIn (m - i) m (m+j) d1 d':=by
 refine⟨h'.size.trans h.size,fun t ht=>?_,fun t ht=>?_,fun k hk=>?_,fun lo hi' h1 h2 h3=>?_⟩
 ·rw[h'.rest _ (by omega)];exact h.left t (by omega)
 ·by_cases ht2:t<j
  ·have h1:=h'.left t (by omega);rw[show m - (i - j)+t=m - i+(m+j - m)+t by omega]at h1;rw[h1];exact h.right t ht2
  ·have h1:=h'.right (t - j) (by omega);rw[show m - (i - j)+(m+j - m)+(t - j)=m - i+(m+j - m)+t by omega]at h1;rw[h1,h.rest _ (by omega) (by omega)];congr 1;omega
 ·rw[h'.rest k (by omega)];exact h.rest k (by omega) (by omega)
 ·exact permIn_trans d1 d2 d' lo hi' (h.perm lo hi' h1 h2 h3 (by omega)) (h'.perm lo hi' (by omega) h2 (by rw[h.size];exact h3))
theorem RotIn.less (hij:i<j)(hi:i<=m)(h:SwpIn (m - i) (m+j - i) i d1 d2)(h':RotIn (m - i) m (m+(j - i)) d2 d'):RotIn (m - i) m (m+j) d1 d':=by
 refine⟨h'.size.trans h.size,fun t ht=>?_,fun t ht=>?_,fun k hk=>?_,fun lo hi' h1 h2 h3=>?_⟩
 ·by_cases ht2:t<j - i
  ·rw[h'.left t (by omega)];exact h.rest _ (by omega) (by omega)
  ·have h1:=h'.right (t - (j - i)) (by omega);rw[show m - i+(m+(j - i) - m)+(t - (j - i))=m - i+t by omega]at h1;have h2:=h.left (t - (j - i)) (by omega);rw[h1,h2];congr 1;omega
 ·have h1:=h'.rest (m - i+(m+j - m)+t) (by omega);have h2:=h.right t (by omega);rw[h1,show m - i+(m+j - m)+t=m+j - i+t by omega];exact h2
 ·rw[h'.rest k (by omega)];exact h.rest k (by omega) (by omega)
 ·exact permIn_trans d1 d2 d' lo hi' (h.perm lo hi' h1 (by omega) h3 (by omega)) (h'.perm lo hi' (by omega) (by omega) (by rw[h.size];exact h3))
structure ShL (a e:Nat) (d d':Array α):Prop where
 size:d'.size=d.size
 low:∀t,a<=t->t<e->d'[t]! = d[t+1]!
 top:d'[e]! = d[a]!
 rest:∀k,k<a\/e<k->d'[k]! = d[k]!
 perm:∀lo hi,lo<=a->e<hi->hi<=d.size->PermIn lo hi d d'
theorem ShL.start (a:Nat)(d:Array α):ShL a a d d:=⟨rfl,fun t h1 h2=>by omega,rfl,fun _ _=>rfl,fun lo hi _ _ _=>permIn_refl d lo hi⟩
theorem ShL.next (h:ShL a k d d')(ha:a<=k)(hk:k+1<d.size):ShL a (k+1) d (swp d' k (k+1)):=by
 have hs:=h.size;have g:=swp_get d' (show k<d'.size by omega) (show k+1<d'.size by omega);refine⟨by rw[swp_size,hs],fun t h1 h2=>?_,?_,fun q hq=>?_,fun lo hi h1 h2 h3=>?_⟩
 ·rw[g,if_neg (by omega)];by_cases e:t=k
  ·subst e;rw[if_pos rfl];exact h.rest _ (by omega)
  ·rw[if_neg e];exact h.low t h1 (by omega)
 ·rw[g,if_pos rfl];exact h.top
 ·rw[g,if_neg (by omega),if_neg (by omega)];exact h.rest q (by omega)
 ·exact permIn_trans d d' _ lo hi (h.perm lo hi h1 (by omega) h3) (swp_permIn d' lo hi _ _ (by omega) (by omega) (by omega) (by omega) (by omega))
structure ShR (e m:Nat) (d d':Array α):Prop where
 size:d'.size=d.size
 high:∀t,e<=t->t<m->d'[t+1]! = d[t]!
 low:d'[e]! = d[m]!
 rest:∀k,k<e\/m<k->d'[k]! = d[k]!
 perm:∀lo hi,lo<=e->m<hi->hi<=d.size->PermIn lo hi d d'
theorem ShR.start (m:Nat)(d:Array α):ShR m m d d:=⟨rfl,fun t h1 h2=>by omega,rfl,fun _ _=>rfl,fun lo hi _ _ _=>permIn_refl d lo hi⟩
theorem ShR.next (h:ShR (k+1) m d d')(hk:k+1<=m)(hm:m<d.size):ShR k m d (swp d' (k+1) k):=by
 have hs:=h.size;have g:=swp_get d' (show k+1<d'.size by omega) (show k<d'.size by omega);refine⟨by rw[swp_size,hs],fun t h1 h2=>?_,?_,fun q hq=>?_,fun lo hi h1 h2 h3=>?_⟩
 ·rw[g,if_neg (by omega)];by_cases e:t=k
  ·subst e;rw[if_pos rfl];exact h.rest _ (by omega)
  ·rw[if_neg (by omega)];exact h.high t (by omega) h2
 ·rw[g,if_pos rfl];exact h.low
 ·rw[g,if_neg (by omega),if_neg (by omega)];exact h.rest q (by omega)
 ·exact permIn_trans d d' _ lo hi (h.perm lo hi (by omega) h2 h3) (swp_permIn d' lo hi _ _ (by omega) (by omega) (by omega) (by omega) (by omega))
structure Bis (g:Nat->Bool) (lo hi s r:Nat):Prop where
 lo_s:lo<=s
 s_r:s<=r
 r_hi:r<=hi
 no:∀c,lo<=c->c<s->g c=false
 yes:∀c,r<=c->c<hi->g c=true
theorem Bis.start (g:Nat->Bool){lo hi:Nat}(h:lo<=hi):Bis g lo hi lo hi:=⟨zr _,h,zr _,fun c h1 h2=>by omega,fun c h1 h2=>by omega⟩
theorem Bis.right {g:Nat->Bool}{lo hi s r c:Nat}(h:Bis g lo hi s r)(hm:∀c c',lo<=c->c<=c'->c'<hi->g c=true->g c'=true)(h1:s<=c)(h2:c<r)(hg:g c=false):Bis g lo hi (c+1) r:=by
 have:=h.lo_s;have:=h.r_hi;refine⟨by omega,by omega,h.r_hi,fun q q1 q2=>?_,h.yes⟩;cases hq:g q with
 | false=>rfl
 | true=>rw[hm q c q1 (by omega) (by omega) hq]at hg;cases hg
theorem Bis.left {g:Nat->Bool}{lo hi s r c:Nat}(h:Bis g lo hi s r)(hm:∀c c',lo<=c->c<=c'->c'<hi->g c=true->g c'=true)(h1:s<=c)(h2:c<r)(hg:g c=true):Bis g lo hi s c:=by
 have:=h.lo_s;have:=h.r_hi;exact⟨h.lo_s,h1,by omega,h.no,fun q q1 q2=>hm c q (by omega) q1 q2 hg⟩
theorem Zjc {c:Nat}(h1:SortedIn lt a c d)(h2:SortedIn lt c b d)(h:∀i j,a<=i->i<c->c<=j->j<b->lt d[j]! d[i]! = false):SortedIn lt a b d:=by
 intro i j hi hij hj;by_cases h3:j<c
 ·exact h1 i j hi hij h3
 ·by_cases h4:c<=i
  ·exact h2 i j h4 hij hj
  ·exact h i j hi (by omega) (by omega) hj
theorem lt_le (hS:SWO lt){x y z:α}(h:lt x y=true)(h2:lt z y=false):lt x z=true:=by
 cases h3:lt x z with
 | true=>rfl
 | false=>rw[hS.ntrans x z y h3 h2]at h;cases h
theorem le_lt (hS:SWO lt){x y z:α}(h:lt y x=false)(h2:lt y z=true):lt x z=true:=by
 cases h3:lt x z with
 | true=>rfl
 | false=>rw[hS.ntrans y x z h h3]at h2;cases h2
theorem Zbk (hS:SWO lt)(h:SortedIn lt a b d){i j:Nat}(h1:a<=i)(h2:i<=j)(h3:j<b):lt d[j]! d[i]! = false:=by
 rcases Nat.lt_or_ge i j with h4|h4
 ·exact h i j h1 h4 h3
 ·rw[show j=i by omega];exact hS.irrefl _
theorem Zg6 (hS:SWO lt)(s2:SortedIn lt m b d)(a:Nat):∀c c',m<=c->c<=c'->c'<b->(!lt d[c]! d[a]!)=true->(!lt d[c']! d[a]!)=true:=by
 intro c c' h1 h2 h3 h;have e:lt d[c]! d[a]! = false:=by simpa using h
 rw[hS.ntrans _ _ _ (Zbk hS s2 h1 h2 h3) e]
 rfl
theorem Zls (hS:SWO lt)(hm:m=a+1)(hmb:m<b)(s2:SortedIn lt m b d)(hi:Bis (fun c=>!lt d[c]! d[a]!) m b i i)(h:ShL a (i - 1) d d'):SortedIn lt a b d':=by
 have h1:=hi.lo_s;have h2:=hi.r_hi;have no:∀c,m<=c->c<i->lt d[c]! d[a]! = true:=fun c q1 q2=>by have:=hi.no c q1 q2;simpa using this
 have yes:∀c,i<=c->c<b->lt d[c]! d[a]! = false:=fun c q1 q2=>by have:=hi.yes c q1 q2;simpa using this
 have hv:∀t,a<=t->t<b->(t<i - 1/\d'[t]! = d[t+1]!)\/(t=i - 1/\d'[t]! = d[a]!)\/(i - 1<t/\d'[t]! = d[t]!):=fun t q1 q2=>by
  rcases Nat.lt_trichotomy t (i - 1) with q|q|q
  ·exact Or.inl ⟨q,h.low t q1 q⟩
  ·exact Or.inr (Or.inl ⟨q,by rw[q];exact h.top⟩)
  ·exact Or.inr (Or.inr ⟨q,h.rest t (Or.inr q)⟩)
 intro x y hx hxy hy;rcases hv x hx (by omega) with ⟨p1,p2⟩|⟨p1,p2⟩|⟨p1,p2⟩ <;> rcases hv y (by omega) hy with ⟨q1,q2⟩|⟨q1,q2⟩|⟨q1,q2⟩ <;> rw[p2,q2] <;> first|omega|skip
 ·exact s2 _ _ (by omega) (by omega) (by omega)
 ·exact hS.asymmA (no _ (by omega) (by omega))
 ·exact s2 _ _ (by omega) (by omega) hy
 ·exact yes y (by omega) hy
 ·exact s2 _ _ (by omega) (by omega) hy
theorem Zfn (hS:SWO lt)(s1:SortedIn lt a m d)(q:Nat):∀c c',a<=c->c<=c'->c'<m->lt d[q]! d[c]! = true->lt d[q]! d[c']! = true:=by
 intro c c' h1 h2 h3 h;exact lt_le hS h (Zbk hS s1 h1 h2 h3)
theorem Zjd (hS:SWO lt)(hm:b=m+1)(ham:a<m)(s1:SortedIn lt a m d)(hi:Bis (fun c=>lt d[m]! d[c]!) a m i i)(h:ShR i m d d'):SortedIn lt a b d':=by
 have h1:=hi.lo_s;have h2:=hi.r_hi;have no:∀c,a<=c->c<i->lt d[m]! d[c]! = false:=fun c q1 q2=>hi.no c q1 q2;have yes:∀c,i<=c->c<m->lt d[m]! d[c]! = true:=fun c q1 q2=>hi.yes c q1 q2
 have hv:∀t,a<=t->t<b->(t<i/\d'[t]! = d[t]!)\/(t=i/\d'[t]! = d[m]!)\/(i<t/\d'[t]! = d[t - 1]!):=fun t q1 q2=>by
  rcases Nat.lt_trichotomy t i with q|q|q
  ·exact Or.inl ⟨q,h.rest t (Or.inl q)⟩
  ·exact Or.inr (Or.inl ⟨q,by rw[q];exact h.low⟩)
  ·refine Or.inr (Or.inr ⟨q,?_⟩);have:=h.high (t - 1) (by omega) (by omega)
   rwa [show t - 1+1=t by omega]at this
 intro x y hx hxy hy;rcases hv x hx (by omega) with ⟨p1,p2⟩|⟨p1,p2⟩|⟨p1,p2⟩ <;> rcases hv y (by omega) hy with ⟨q1,q2⟩|⟨q1,q2⟩|⟨q1,q2⟩ <;> rw[p2,q2] <;> first|omega|skip
 ·exact s1 _ _ hx hxy (by omega)
 ·exact no x hx (by omega)
 ·exact s1 _ _ hx (by omega) (by omega)
 ·exact hS.asymmA (yes _ (by omega) (by omega))
 ·exact s1 _ _ (by omega) (by omega) (by omega)
theorem Zkp (hS:SWO lt)(s1:SortedIn lt a m d)(s2:SortedIn lt m b d){p lo hi:Nat}(h1:a<=lo)(h2:hi<=m)(h3:∀c,lo<=c->c<hi->m<=p - c/\p - c<b):∀c c',lo<=c->c<=c'->c'<hi->lt d[p - c]! d[c]! = true->lt d[p - c']! d[c']! = true:=by
 intro c c' q1 q2 q3 h;have hc:=h3 c q1 (by omega);have hc':=h3 c' (by omega) q3;have e1:lt d[c']! d[c]! = false:=Zbk hS s1 (by omega) q2 (by omega);have e2:lt d[p - c]! d[p - c']! = false:=Zbk hS s2 hc'.1 (by omega) hc.2;exact le_lt hS e2 (lt_le hS h e1)
structure Parted (lt:α->α->Bool) (a mid b st en:Nat) (d d2:Array α):Prop where
 perm:PermIn a b d d2
 p1:SortedIn lt a st d2
 p2:SortedIn lt st mid d2
 p3:SortedIn lt mid en d2
 p4:SortedIn lt en b d2
 cross:∀i j,a<=i->i<mid->mid<=j->j<b->lt d2[j]! d2[i]! = false
theorem Zf4 (hS:SWO lt){mid st lo hi:Nat}(ham:a<m)(hmb:m<b)(hd:b<=d.size)(s1:SortedIn lt a m d)(s2:SortedIn lt m b d)(hmid:mid=(a+b) / 2)(hlo:lo=if mid<m then mid+m - b else a)(hhi:hi=if mid<m then mid else m)(h:Bis (fun c=>lt d[mid+m - 1 - c]! d[c]!) lo hi st st)(hr:RotIn st m (mid+m - st) d d2):Parted lt a mid b st (mid+m - st) d d2:=by
 have hb1:=h.lo_s;have hb2:=h.r_hi;have hlo2:a<=lo/\hi<=m/\lo<=hi/\mid+m - st<=b/\m<=mid+m - st/\hi<=mid/\mid+m - b<=lo:=by
  split at hlo <;> split at hhi <;> omega
 obtain⟨g1,g2,g3,g4,g5,g6,g7⟩:=hlo2;have L:∀t,a<=t->t<st->d2[t]! = d[t]!:=fun t q1 q2=>hr.rest t (Or.inl q2)
 have M1:∀t,st<=t->t<mid->d2[t]! = d[m+(t - st)]!:=fun t q1 q2=>by
  have:=hr.left (t - st) (by omega)
  rwa [show st+(t - st)=t by omega]at this
 have M2:∀t,mid<=t->t<mid+m - st->d2[t]! = d[st+(t - mid)]!:=fun t q1 q2=>by
  have:=hr.right (t - mid) (by omega)
  rwa [show st+(mid+m - st - m)+(t - mid)=t by omega]at this
 have R:∀t,mid+m - st<=t->d2[t]! = d[t]!:=fun t q1=>hr.rest t (Or.inr q1);have no:∀c,lo<=c->c<st->lt d[mid+m - 1 - c]! d[c]! = false:=fun c q1 q2=>h.no c q1 q2;have yes:∀c,st<=c->c<hi->lt d[mid+m - 1 - c]! d[c]! = true:=fun c q1 q2=>h.yes c q1 q2;refine⟨hr.perm a b (by omega) g4 hd,fun i j q1 q2 q3=>?_,fun i j q1 q2 q3=>?_,fun i j q1 q2 q3=>?_,fun i j q1 q2 q3=>?_,fun i j q1 q2 q3 q4=>?_⟩
 ·rw[L i q1 (by omega),L j (by omega) q3];exact s1 i j q1 q2 (by omega)
 ·rw[M1 i q1 (by omega),M1 j (by omega) q3];exact s2 _ _ (by omega) (by omega) (by omega)
 ·rw[M2 i q1 (by omega),M2 j (by omega) q3];exact s1 _ _ (by omega) (by omega) (by omega)
 ·rw[R i q1,R j (by omega)];exact s2 _ _ (by omega) q2 q3
 ·have A1:∀x y,a<=x->x<st->mid+m - st<=y->y<b->lt d[y]! d[x]! = false:=fun x y x1 x2 y1 y2=>by
   have hne:lo<=st - 1:=by split at hlo <;> split at hhi <;> omega
   have e1:=no (st - 1) hne (by omega);have e2:lt d[st - 1]! d[x]! = false:=Zbk hS s1 x1 (by omega) (by omega);have e3:lt d[y]! d[mid+m - 1 - (st - 1)]! = false:=Zbk hS s2 (by omega) (by omega) y2;exact hS.ntrans _ _ _ e3 (hS.ntrans _ _ _ e1 e2)
  have A2:∀x y,st<=x->x<m->m<=y->y<mid+m - st->lt d[x]! d[y]! = false:=fun x y x1 x2 y1 y2=>by
   have hne:st<hi:=by split at hlo <;> split at hhi <;> omega
   have e1:=hS.asymmA (yes st (zr _) hne);have e2:lt d[x]! d[st]! = false:=Zbk hS s1 (by omega) x1 x2;have e3:lt d[mid+m - 1 - st]! d[y]! = false:=Zbk hS s2 y1 (by omega) (by omega);exact hS.ntrans _ _ _ e2 (hS.ntrans _ _ _ e1 e3)
  by_cases c1:i<st
  ·rw[L i q1 c1];by_cases c2:j<mid+m - st
   ·rw[M2 j q3 c2];exact s1 _ _ q1 (by omega) (by omega)
   ·rw[R j (by omega)];exact A1 i j q1 c1 (by omega) q4
  ·rw[M1 i (by omega) q2];by_cases c2:j<mid+m - st
   ·rw[M2 j q3 c2];exact A2 _ _ (by omega) (by omega) (by omega) (by omega)
   ·rw[R j (by omega)];exact Zbk hS s2 (by omega) (by omega) q4
theorem Parted.done {mid st en:Nat}(h:Parted lt a mid b st en d d2)(hs:b<=d.size)(ham:a<=mid)(hmb:mid<=b){d3 d4:Array α}(h3:PermIn a mid d2 d3/\SortedIn lt a mid d3)(h4:PermIn mid b d3 d4/\SortedIn lt mid b d4):PermIn a b d d4/\SortedIn lt a b d4:=by
 have z2:=h.perm.1;have z3:=h3.1.1;have z4:=h4.1.1;refine⟨permIn_trans d d2 d4 a b h.perm (permIn_trans d2 d3 d4 a b (permIn_mono d2 d3 a mid a b (zr _) hmb (by omega) h3.1) (permIn_mono d3 d4 mid b a b ham (zr _) (by omega) h4.1)),?_⟩;refine Zjc (c:=mid) (fun i j q1 q2 q3=>?_) h4.2 (fun i j q1 q2 q3 q4=>?_)
 ·rw[h4.1.2.1 i (Or.inl (by omega)),h4.1.2.1 j (Or.inl q3)];exact h3.2 i j q1 q2 q3
 ·rw[h4.1.2.1 i (Or.inl q2)];refine permIn_all d3 d4 mid b (fun y=>lt y d3[i]! = false) (by omega) h4.1 (fun y y1 y2=>?_) j q3 q4;rw[h3.1.2.1 y (Or.inr y1)];exact permIn_all d2 d3 a mid (fun x=>lt d2[y]! x=false) (by omega) h3.1 (fun x x1 x2=>h.cross x y x1 x2 y1 y2) i q1 q2
theorem Zam {mid st:Nat}(h1:SortedIn lt a st d)(h2:SortedIn lt st mid d)(h:¬(a<st/\st<mid))(hs:a<=st/\st<=mid):SortedIn lt a mid d:=by
 rcases (show a=st\/st=mid by omega) with e|e
 ·subst e;exact h2
 ·subst e;exact h1
theorem PermIn.sorted_out {x y:Nat}(h:PermIn a b d d')(hs:SortedIn lt x y d)(ho:y<=a\/b<=x):SortedIn lt x y d':=by
 intro i j q1 q2 q3;rw[h.2.1 i (by omega),h.2.1 j (by omega)];exact hs i j q1 q2 q3
def Blocks (lt:α->α->Bool)(s n:Nat)(d:Array α):Prop:=∀q,SortedIn lt (q*s) (min (q*s+s) n) d
def BlocksTo (lt:α->α->Bool)(s j:Nat)(d:Array α):Prop:=∀q,q<j->SortedIn lt (q*s) (q*s+s) d
theorem Zc6 {q j s:Nat}(h:q<j):q*s+s<=j*s:=by
 have:=Nat.mul_le_mul_right s (show q+1<=j from h)
 rwa [Nat.add_mul,Nat.one_mul]at this
theorem BlocksTo.start (lt:α->α->Bool)(s:Nat)(d:Array α):BlocksTo lt s 0 d:=fun q h=>by omega
theorem BlocksTo.next {s:Nat}(h:BlocksTo lt s j d)(h1:PermIn (j*s) (j*s+s) d d')(h2:SortedIn lt (j*s) (j*s+s) d'):BlocksTo lt s (j+1) d':=by
 intro q hq;by_cases e:q=j
 ·subst e;exact h2
 ·have:=Zc6 (s:=s) (show q<j by omega);exact PermIn.sorted_out h1 (h q (by omega)) (Or.inl this)
theorem BlocksTo.done {s:Nat}(h:BlocksTo lt s j d)(hn:n<j*s+s)(h1:PermIn (j*s) n d d')(h2:SortedIn lt (j*s) n d'):Blocks lt s n d':=by
 intro q x y q1 q2 q3;rcases Nat.lt_trichotomy q j with e|e|e
 ·have:=Zc6 (s:=s) e;exact PermIn.sorted_out h1 (h q e) (Or.inl this) x y q1 q2 (by omega)
 ·subst e;exact h2 x y q1 q2 (by omega)
 ·have:=Zc6 (s:=s) e;omega
def Merged (lt:α->α->Bool)(s j n:Nat)(d:Array α):Prop:=(∀q,q<j->SortedIn lt (q*(2*s)) (q*(2*s)+2*s) d)/\∀q,2*j<=q->SortedIn lt (q*s) (min (q*s+s) n) d
theorem Merged.start {s:Nat}(h:Blocks lt s n d):Merged lt s 0 n d:=⟨fun q h=>by omega,fun q _=>h q⟩
theorem Zcn (j s:Nat):2*j*s=j*(2*s):=by rw[Nat.mul_comm 2 j,Nat.mul_assoc]
theorem Merged.left {s:Nat}(h:Merged lt s j n d)(hn:j*(2*s)+s<=n):SortedIn lt (j*(2*s)) (j*(2*s)+s) d:=by
 have:=h.2 (2*j) (zr _)
 rwa [Zcn,Nat.min_eq_left hn]at this
theorem Merged.right {s:Nat}(h:Merged lt s j n d):SortedIn lt (j*(2*s)+s) (min (j*(2*s)+s+s) n) d:=by
 have:=h.2 (2*j+1) (by omega)
 rwa [Nat.add_mul,Nat.one_mul,Zcn]at this
theorem Merged.next {s:Nat}(h:Merged lt s j n d)(h1:PermIn (j*(2*s)) (j*(2*s)+2*s) d d')(h2:SortedIn lt (j*(2*s)) (j*(2*s)+2*s) d'):Merged lt s (j+1) n d':=by
 refine⟨fun q hq=>?_,fun q hq=>?_⟩
 ·by_cases e:q=j
  ·subst e;exact h2
  ·have:=Zc6 (s:=2*s) (show q<j by omega);exact PermIn.sorted_out h1 (h.1 q (by omega)) (Or.inl this)
 ·have h3:=Nat.mul_le_mul_right s hq;rw[show 2*(j+1)=2*j+2 by omega,Nat.add_mul,Zcn]at h3;exact PermIn.sorted_out h1 (h.2 q (by omega)) (Or.inr (by omega))
theorem Merged.done {s:Nat}(h:Merged lt s j n d)(hn:n<j*(2*s)+2*s)(h1:PermIn (j*(2*s)) n d d')(h2:SortedIn lt (j*(2*s)) n d'):Blocks lt (2*s) n d':=by
 intro q x y q1 q2 q3;rcases Nat.lt_trichotomy q j with e|e|e
 ·have:=Zc6 (s:=2*s) e;exact PermIn.sorted_out h1 (h.1 q e) (Or.inl this) x y q1 q2 (by omega)
 ·subst e;exact h2 x y q1 q2 (by omega)
 ·have:=Zc6 (s:=2*s) e;omega
theorem Merged.short {s:Nat}(h:Merged lt s j n d)(hn:n<=j*(2*s)+s):SortedIn lt (j*(2*s)) n d:=by
 have:=h.2 (2*j) (zr _)
 rwa [Zcn,Nat.min_eq_right hn]at this
theorem Blocks.all {s:Nat}(h:Blocks lt s n d)(hn:n<=s):SortedIn lt 0 n d:=by
 have:=h 0
 rwa [Nat.zero_mul,Nat.zero_add,Nat.min_eq_right hn]at this
end Go.Proofs.YtnpfaajhgghpgaaGreatDoor
namespace Go.Proofs.YtnpfaajhgghpgaaGreatDoor
section
variable {P : Program} {ops : Array Oper} {md : Region.Mode} {Q : Exit -> Act -> World -> Prop} {S : World -> Prop} {need : Nat -> Bool}
def wpAnyM (P:Program)(md:Region.Mode)(ops:Array Oper)(Q:Exit->Act->World->Prop)(S:World->Prop)(need:Nat->Bool):Nat->Array Bool->Act->World->Prop
 | 0,listed,a,w=>Region.ready md ops listed = []/\Q .normal a w
 | fuel+1,listed,a,w=>
  (Region.ready md ops listed = []->Q .normal a w) /\
  ∀i∈Region.ready md ops listed,wpOp P ops Q i (fun a' w'=>(need i=true->S w->S w')/\wpAnyM P md ops Q S need fuel (listed.setIfInBounds i true) a' w') a w
theorem Zf5:∀(fuel:Nat) (listed:Array Bool) (a:Act) (w:World),wpAnyM P md ops Q S need fuel listed a w->wpAny P md ops Q fuel listed a w
 | 0,_,_,_,h=>h
 | fuel+1,_,_,_,h=>⟨h.1,fun i hi=>wpOp_mono (fun a' w' h'=>Zf5 fuel _ a' w' h'.2) (h.2 i hi)⟩
def ShutM (md:Region.Mode)(ops:Array Oper)(listed:Array Bool):Prop:=∀j oj,ops[j]? = some oj->listed.getD j false=true->∀e∈oj.after,Region.binds md e=true->listed.getD e.on false=true
theorem ShutM.start (md:Region.Mode)(ops:Array Oper)(n:Nat):ShutM md ops (Array.replicate n false):=fun j oj _ h=>by rw[getD_replicate_false]at h;cases h
theorem ShutM.set {listed:Array Bool}(h:ShutM md ops listed){i:Nat}(hi:i∈Region.ready md ops listed):ShutM md ops (listed.setIfInBounds i true):=fun j oj hj hl e he hb=>by
 obtain⟨_,oi,hoi,hall⟩:=mem_ready.1 hi;by_cases hji:i=j
 ·subst hji;obtain rfl:oi=oj:=Option.some.inj (hoi.symm.trans hj);exact getD_set_true (by simpa using hall e he hb)
 ·rw[getD_set_ne false hji]at hl;exact getD_set_true (h j oj hj hl e he hb)
def ancM (md:Region.Mode)(ops:Array Oper)(i:Nat):Nat->Nat->Bool
 | 0,_=>false
 | f+1,j=>match ops[j]? with|some o=>o.after.any fun e=>Region.binds md e&&(decide (e.on=i) || ancM md ops i f e.on)|none=>false
theorem Zfe {listed:Array Bool}(h:ShutM md ops listed){i:Nat}:∀(f j:Nat) (oj:Oper),ops[j]? = some oj->(∀e∈oj.after,Region.binds md e=true->listed.getD e.on false=true)->ancM md ops i f j=true->listed.getD i false=true
 | 0,j,oj,_,_,hB=>by cases hB
 | f+1,j,oj,hj,hall,hB=>by
  simp only[ancM,hj]at hB;rw[Array.any_eq_true]at hB;obtain⟨k,hk,hB⟩:=hB;rw[Bool.and_eq_true,Bool.or_eq_true,decide_eq_true_eq]at hB;have he:=hall _ (Array.getElem_mem hk) hB.1;rcases hB.2 with h1|h1
  ·rw[<-h1];exact he
  ·cases ho:ops[(oj.after[k]).on]? with
   | none=>cases f <;> simp[ancM,ho]at h1
   | some o2=>exact Zfe h f _ o2 ho (h _ o2 ho he) h1
theorem Zje {i:Nat}{oi:Oper}{v:Value}(hi:ops[i]? = some oi)(hsel:∀(j:Nat) (o:Oper) cs b,ops[j]? = some o->o.op≠.select cs b)
  (hQ:∀c a w,Q (.panic c) (a.put oi.dst v) w->Q (.panic c) a w) :
  ∀(fuel:Nat) (listed:Array Bool) (a:Act) (w:World),
   (∀j oj,ops[j]? = some oj->j≠i->listed.getD j true=false->(∀e∈oj.after,Region.binds md e=true->e.on≠i)->oi.apart ops oj=true) ->
   i∈Region.ready md ops listed->YieldsIf P ops (fun _=>True) oi v a ->
   wpAnyM P md ops Q S need fuel (listed.setIfInBounds i true) (a.put oi.dst v) w->wpAnyM P md ops Q S need (fuel+1) listed a w:=by
 intro fuel
 induction fuel with
 | zero=>
  intro listed a w _ hr hy H;refine⟨fun h=>(by rw[h]at hr;cases hr),fun j hj=>?_⟩;by_cases hji:j=i
  ·subst hji;exact hy.wpOp hi trivial ⟨fun _ h=>h,H⟩
  ·have:=ready_mono hj hji;rw[H.1]at this;cases this
 | succ fuel ih=>
  intro listed a w hfree hr hy H;refine⟨fun h=>(by rw[h]at hr;cases hr),fun j hj=>?_⟩;by_cases hji:j=i
  ·subst hji;exact hy.wpOp hi trivial ⟨fun _ h=>h,H⟩
  ·have h1:=H.2 j (ready_mono hj hji);obtain⟨hjun,oj,hoj,hall⟩:=mem_ready.1 hj;have hun:=(mem_ready.1 hr).1;have hnot:∀e∈oj.after,Region.binds md e=true->e.on≠i:=by
    rintro e he hb rfl;have h1:=hall e he hb;rw[getD_both hun]at h1;cases h1
   have h2:=wpOp_putIf hoj (hfree j oj hoj hji hjun hnot) (fun cs b=>hsel i oi cs b hi) (fun cs b=>hsel j oj cs b hoj) hQ hy h1
   have hfree':∀k ok,ops[k]? = some ok->k≠i->(listed.setIfInBounds j true).getD k true=false ->
     (∀e∈ok.after,Region.binds md e=true->e.on≠i)->oi.apart ops ok=true:=fun k ok hk hki hunk hno=>by
    refine hfree k ok hk hki ?_ hno;by_cases hjk:j=k
    ·subst hjk;exact hjun
    ·rw[getD_set_ne true hjk]at hunk;exact hunk
   refine wpOp_mono (fun a' w' h3=>⟨h3.2.1,ih (listed.setIfInBounds j true) a' w' hfree' (ready_mono hr (Ne.symm hji)) h3.1 ?_⟩) h2;rw[Array.setIfInBounds_comm _ _ hji];exact h3.2.2
theorem Zjf {i:Nat}{oi:Oper}{v:Value}(hi:ops[i]? = some oi)(hsel:∀(j:Nat) (o:Oper) cs b,ops[j]? = some o->o.op≠.select cs b)
  (hQ:∀c a w,Q (.panic c) (a.put oi.dst v) w->Q (.panic c) a w) (fa:Nat) (hneed:∀j,j<ops.size->j≠i->need j=false->ancM md ops i fa j=true) :
  ∀(fuel:Nat) (listed:Array Bool) (a:Act) (w:World),ShutM md ops listed ->
   (∀j oj,ops[j]? = some oj->j≠i->listed.getD j true=false->(∀e∈oj.after,Region.binds md e=true->e.on≠i)->oi.apart ops oj=true) ->
   i∈Region.ready md ops listed->YieldsIf P ops S oi v a->S w ->
   wpAnyM P md ops Q S need fuel (listed.setIfInBounds i true) (a.put oi.dst v) w->wpAnyM P md ops Q S need (fuel+1) listed a w:=by
 intro fuel
 induction fuel with
 | zero=>
  intro listed a w _ _ hr hy hS H;refine⟨fun h=>(by rw[h]at hr;cases hr),fun j hj=>?_⟩;by_cases hji:j=i
  ·subst hji;exact hy.wpOp hi hS ⟨fun _ h=>h,H⟩
  ·have:=ready_mono hj hji;rw[H.1]at this;cases this
 | succ fuel ih=>
  intro listed a w hsh hfree hr hy hS H;refine⟨fun h=>(by rw[h]at hr;cases hr),fun j hj=>?_⟩;by_cases hji:j=i
  ·subst hji;exact hy.wpOp hi hS ⟨fun _ h=>h,H⟩
  ·have h1:=H.2 j (ready_mono hj hji);obtain⟨hjun,oj,hoj,hall⟩:=mem_ready.1 hj;have hun:=(mem_ready.1 hr).1;have hnot:∀e∈oj.after,Region.binds md e=true->e.on≠i:=by
    rintro e he hb rfl;have h1:=hall e he hb;rw[getD_both hun]at h1;cases h1
   have hnj:need j=true:=by
    cases hn:need j with
    | true=>rfl
    | false=>
     exfalso;have:=Zfe hsh fa j oj hoj (fun e he hb=>by simpa using hall e he hb) (hneed j (Array.getElem?_eq_some_iff.1 hoj).1 hji hn);rw[getD_both hun]at this;cases this
   have h2:=wpOp_putIf hoj (hfree j oj hoj hji hjun hnot) (fun cs b=>hsel i oi cs b hi) (fun cs b=>hsel j oj cs b hoj) hQ hy h1
   have hfree':∀k ok,ops[k]? = some ok->k≠i->(listed.setIfInBounds j true).getD k true=false ->
     (∀e∈ok.after,Region.binds md e=true->e.on≠i)->oi.apart ops ok=true:=fun k ok hk hki hunk hno=>by
    refine hfree k ok hk hki ?_ hno;by_cases hjk:j=k
    ·subst hjk;exact hjun
    ·rw[getD_set_ne true hjk]at hunk;exact hunk
   refine wpOp_mono (fun a' w' h3=>⟨h3.2.1,ih (listed.setIfInBounds j true) a' w' (hsh.set hj) hfree' (ready_mono hr (Ne.symm hji)) h3.1 (h3.2.1 hnj hS) ?_⟩) h2;rw[Array.setIfInBounds_comm _ _ hji];exact h3.2.2
def planMB (md:Region.Mode)(ops:Array Oper)(need:Nat->Bool):List (Nat×Nat)->Bool->Array Bool->Bool
 | [],_,listed=>decide (Region.ready md ops listed = [])
 | (i,0)::r,alive,listed=>(Region.ready md ops listed).contains i&&Region.free md ops listed i&&planMB md ops need r alive (listed.setIfInBounds i true)
 | (i,1)::r,alive,listed=>alive&&(Region.ready md ops listed).contains i&&Region.free md ops listed i&&((List.range ops.size).all fun j=>decide (j=i) || need j || ancM md ops i ops.size j)&&planMB md ops need r alive (listed.setIfInBounds i true)
 | (i,2)::r,alive,listed=>alive&&decide (Region.ready md ops listed = [i])&&planMB md ops need r alive (listed.setIfInBounds i true)
 | (i,_+3)::r,alive,listed=>!need i&&decide (Region.ready md ops listed = [i])&&planMB md ops need r false (listed.setIfInBounds i true)
def planML (l:List Oper):List (Nat×Nat)->List (Oper×Nat)
 | []=>[]
 | (i,b)::r=>match l[i]? with|some o=>(o,b)::planML l r|none=>planML l r
def wpPlanM (P:Program)(ops:Array Oper)(Q:Exit->Act->World->Prop)(S:World->Prop):List (Oper×Nat)->Act->World->Prop
 | [],a,w=>Q .normal a w
 | (o,0)::r,a,w=>∃v,YieldsIf P ops (fun _=>True) o v a/\wpPlanM P ops Q S r (a.put o.dst v) w
 | (o,1)::r,a,w=>∃v,YieldsIf P ops S o v a/\wpPlanM P ops Q S r (a.put o.dst v) w
 | (o,2)::r,a,w=>wpList P ops (Exit.then (fun a' w'=>S w'/\wpPlanM P ops Q S r a' w') Q) [o] a w
 | (o,_+3)::r,a,w=>wpList P ops (Exit.then (fun a' w'=>wpPlanM P ops Q S r a' w') Q) [o] a w
theorem Zg7 {o:Oper}{r:List (Oper×Nat)}{a:Act}{w:World}(v:Value)(hw:Region.wanted o (yielded ops a.tmps)=true)(hy:∀W,S W->(execOp a.eval o).run P W = .ok (.value v) W)(h:wpPlanM P ops Q S r (a.put o.dst v) w):wpPlanM P ops Q S ((o,1)::r) a w:=
 ⟨v,Or.inl ⟨hw,hy⟩,h⟩
theorem Zcd {o:Oper}{r:List (Oper×Nat)}{a:Act}{w:World}(v:Value)(hw:Region.wanted o (yielded ops a.tmps)=true)(hy:∀W,True->(execOp a.eval o).run P W = .ok (.value v) W)(h:wpPlanM P ops Q S r (a.put o.dst v) w):wpPlanM P ops Q S ((o,0)::r) a w:=
 ⟨v,Or.inl ⟨hw,hy⟩,h⟩
theorem Zbs {o:Oper}{r:List (Oper×Nat)}{a:Act}{w:World}(h:wpList P ops (Exit.then (fun a' w'=>wpPlanM P ops Q S r a' w') Q) [o] a w):wpPlanM P ops Q S ((o,3)::r) a w:=h
theorem Zef {a:Act}{w:World}(h:Q .normal a w):wpPlanM P ops (NoPanic Q) S [] a w:=NoPanic.normal h
theorem Zcx {l:List Oper}(hl:ops=l.toArray)(hsel:Region.noSelect ops=true)(hQ:∀c (a:Act) d v w,Q (.panic c) (a.put d v) w->Q (.panic c) a w):∀(pl:List (Nat×Nat)) (alive:Bool) (listed:Array Bool) (a:Act) (w:World),planMB md ops need pl alive listed=true->ShutM md ops listed->(alive=true->S w) ->
  wpPlanM P ops Q S (planML l pl) a w->wpAnyM P md ops Q S need pl.length listed a w
 | [],alive,listed,a,w,hB,_,hS,h=>⟨of_decide_eq_true hB,h⟩
 | (i,0)::r,alive,listed,a,w,hB,hsh,hS,h=>by
  simp only[planMB,Bool.and_eq_true]at hB;obtain⟨⟨hr,hf⟩,hB'⟩:=hB;have hi:i∈Region.ready md ops listed:=by simpa using hr
  obtain⟨_,o,ho,_⟩:=mem_ready.1 hi;have hlo:l[i]? = some o:=by rw[hl]at ho;simpa using ho
  simp only[planML,hlo]at h;obtain⟨v,hy,h'⟩:=h;exact Zje ho (Region.noSelect_spec hsel) (fun c a w=>hQ c a _ _ w) r.length listed a w (Region.free_spec ho hf) hi hy (Zcx hl hsel hQ r alive _ _ w hB' (hsh.set hi) hS h')
 | (i,1)::r,alive,listed,a,w,hB,hsh,hS,h=>by
  simp only[planMB,Bool.and_eq_true]at hB;obtain⟨⟨⟨⟨ha,hr⟩,hf⟩,hnd⟩,hB'⟩:=hB;have hi:i∈Region.ready md ops listed:=by simpa using hr
  obtain⟨_,o,ho,_⟩:=mem_ready.1 hi;have hlo:l[i]? = some o:=by rw[hl]at ho;simpa using ho
  simp only[planML,hlo]at h;obtain⟨v,hy,h'⟩:=h;refine Zjf ho (Region.noSelect_spec hsel) (fun c a w=>hQ c a _ _ w) ops.size (fun j hj hji hn=>?_) r.length listed a w hsh (Region.free_spec ho hf) hi hy (hS ha) (Zcx hl hsel hQ r alive _ _ w hB' (hsh.set hi) hS h');have:=List.all_eq_true.1 hnd j (List.mem_range.2 hj);rw[Bool.or_eq_true,Bool.or_eq_true,decide_eq_true_eq,hn]at this;rcases this with (h1|h1)|h1
  ·exact absurd h1 hji
  ·cases h1
  ·exact h1
 | (i,2)::r,alive,listed,a,w,hB,hsh,hS,h=>by
  simp only[planMB,Bool.and_eq_true,decide_eq_true_eq]at hB;obtain⟨⟨ha,hr⟩,hB'⟩:=hB;have hi:i∈Region.ready md ops listed:=by rw[hr];simp
  obtain⟨_,o,ho,_⟩:=mem_ready.1 hi;have hlo:l[i]? = some o:=by rw[hl]at ho;simpa using ho
  simp only[planML,hlo]at h;refine⟨fun h0=>(by rw[hr]at h0;cases h0),fun j hj=>?_⟩;rw[hr]at hj;obtain rfl:j=i:=by simpa using hj
  have hw:wpOp P ops Q j (fun a' w'=>S w'/\wpPlanM P ops Q S (planML l r) a' w') a w:=by
   unfold wpOp;rw[ho];exact h
  exact wpOp_mono (fun a' w' h'=>⟨fun _ _=>h'.1,Zcx hl hsel hQ r alive _ a' w' hB' (hsh.set hi) (fun _=>h'.1) h'.2⟩) hw
 | (i,k+3)::r,alive,listed,a,w,hB,hsh,hS,h=>by
  simp only[planMB,Bool.and_eq_true,Bool.not_eq_true',decide_eq_true_eq]at hB;obtain⟨⟨hn,hr⟩,hB'⟩:=hB;have hi:i∈Region.ready md ops listed:=by rw[hr];simp
  obtain⟨_,o,ho,_⟩:=mem_ready.1 hi;have hlo:l[i]? = some o:=by rw[hl]at ho;simpa using ho
  simp only[planML,hlo]at h;refine⟨fun h0=>(by rw[hr]at h0;cases h0),fun j hj=>?_⟩;rw[hr]at hj;obtain rfl:j=i:=by simpa using hj
  have hw:wpOp P ops Q j (fun a' w'=>wpPlanM P ops Q S (planML l r) a' w') a w:=by
   unfold wpOp;rw[ho];exact h
  exact wpOp_mono (fun a' w' h'=>⟨fun h0=>(by rw[hn]at h0;cases h0),Zcx hl hsel hQ r false _ a' w' hB' (hsh.set hi) (fun h0=>by cases h0) h'⟩) hw
def needM (pl:List (Nat×Nat))(j:Nat):Bool:=((pl.takeWhile fun p=>p.2 != 3).any fun p=>p.1 == j) || pl.any fun p=>p.1 == j&&p.2 == 0
theorem Zg8 {id:Nat}{a:Act}{w:World}{l:List Oper}(S:World->Prop)(pl:List (Nat×Nat))(hm:P.follows .mixedOrders=true)
  (hB:(Region.noSelect l.toArray&&decide (pl.length=l.length)&&planMB .any l.toArray (needM pl) pl true (Array.replicate l.length false))=true)
  (hS:S w.drew) (h:wpPlanM P l.toArray (NoPanic Q) S (planML l pl) a w.drew):(Code.region id l.toArray true).wp P Q a w:=by
 simp only[Bool.and_eq_true,decide_eq_true_eq]at hB;obtain⟨⟨h1,h2⟩,h3⟩:=hB;refine wp_region_noPanic ?_;refine wp_region_any hm (Zf5 (S:=S) (need:=needM pl) _ _ _ _ ?_);have:=Zcx (md:=.any) rfl h1 (fun c a d v w h=>h) pl true _ a w.drew h3 (ShutM.start _ _ _) (fun _=>hS) h;rw[h2]at this;simpa using this
end
end Go.Proofs.YtnpfaajhgghpgaaGreatDoor
namespace Go.Proofs.YtnpfaajhgghpgaaGreatDoor
open Go.Shelf Go.RowKit Go.Lib Go.Sort
abbrev EVT:TypeId:=59
theorem evC_1:∀x:Ev,∀v∈evC x,v.oneCell'=true:=fun x v hv=>Zb1 [x] v (by simpa using hv)
structure SbRow (w0:World) (blk off n:Nat) (d0:Array Ev):Prop where
 hH:HoldsK evC 8 w0 blk off d0
 hblk:blk<w0.heap.size
 size:d0.size=n
 few:n<=1000000
structure SbIn (w0:World) (blk off n:Nat) (d:Array Ev) (W:World):Prop where
 sw:SWK evC 8 w0 blk off d W
 size:d.size=n
section
variable {w0 W W' : World} {blk off n i j : Nat} {d0 d : Array Ev}
theorem SbIn.holds (h:SbIn w0 blk off n d W)(R:SbRow w0 blk off n d0):HoldsK evC 8 W blk off d:=h.sw.holds R.hblk R.hH (by rw[h.size,R.size])
theorem SbIn.drew (h:SbIn w0 blk off n d W):SbIn w0 blk off n d W.drew:=⟨h.sw.drew,h.size⟩
theorem SbIn.grown (h:SbIn w0 blk off n d W)(q:Nat)(os:Array Obj):SbIn w0 blk off n d (grow (W.drewN q) os):=⟨h.sw.grown q os,h.size⟩
theorem SbIn.ev (h:SbIn w0 blk off n d W)(R:SbRow w0 blk off n d0)(hi:i<n):EvAt W blk (off+i*8) d[i]!:=by
 have c:=fun (q:Nat) (hq:q<8)=>((h.holds R).cell (i:=i) (c:=q) (by rw[h.size];exact hi) hq).1;generalize d[i]! = x at c;exact⟨c 0 (by omega),c 1 (by omega),c 2 (by omega),c 3 (by omega),c 4 (by omega),c 5 (by omega),c 6 (by omega),c 7 (by omega)⟩
theorem SbIn.there (h:SbIn w0 blk off n d W)(R:SbRow w0 blk off n d0)(hi:i<n):W.there blk (off+i*8) 8:=fun q hq=>by
 have c:=(h.holds R).cell (i:=i) (c:=q) (by rw[h.size];exact hi) hq;exact⟨by rw[c.1];rfl,c.2⟩
theorem SbIn.swap (h:SbIn w0 blk off n d W)(R:SbRow w0 blk off n d0)(hi:i<n)(hj:j<n):SbIn w0 blk off n (swp d i j) ((W.setCells blk (off+i*8) (evC d[j]!)).setCells blk (off+j*8) (evC d[i]!)):=
 ⟨h.sw.swap Za7 R.hblk i j (by rw[h.size];exact hi) (by rw[h.size];exact hj),by rw[swp_size,h.size]⟩
end
theorem Za2 {P:Program}{ops:Array Oper}{rest:List Oper}{o:Oper}{a:Act}{Q:Exit->Act->World->Prop}(w:World)(hgd:o.guard=none)(ty:TypeId)(x y:Operand)(ho:o.op = .store ty x y)(g off:Nat)(cells:Array Value)(hx:a.eval x = .pointer (some ⟨g,off,none⟩))(hy:a.eval y = .agg cells)
  (ht:w.there g off cells.size) (hi:(P.info? ty).map (·.size)=some cells.size) (h1:cells.all (·.oneCell')=true)
  (h:wpList P ops Q rest (a.put o.dst undef) (w.setCells g off cells.toList)):wpList P ops Q (o::rest) a w:=
 wpList_plain hgd fun _ hK=>wp_store_mid ty x y ho g off cells hx hy ht hi h1 (hK _ _ h)
theorem Zco (w0:World)(blk off n:Nat)(d0:Array Ev)(R:SbRow w0 blk off n d0)(cap:Nat)(cmp:Value)(a b m:Nat)(d:Array Ev)(W:World)(h:SbIn w0 blk off n d W)(hab:a+m<=b)(hb:b+m<=n) :
  Calls Tryz.prog 172 #[.slice (some ⟨blk,off,none⟩) n cap,.int .i64 a,.int .i64 b,.int .i64 m,cmp] W fun e w'=>e = .returned (.tuple #[])/\∃d',SwpIn a b m d d'/\SbIn w0 blk off n d' w':=by
 have HR:=zh R;have HH:=zh h;have hn:=R.few;clear R h;go_enter Tryz.func172,Tryz.ntmps172;go_wp2_with fail;go_loopw [10] (fun i wr=>∃(k:Nat) (dk:Array Ev),k<=m/\i = .int .i64 k/\Hid (SwpIn a b k d dk)/\Hid (SbIn w0 blk off n dk wr)) (fun i _=>m - (intOf i).toNat)
 case atStart=>exact⟨0,d,Nat.zero_le _,rfl,zh (SwpIn.start a b d),HH⟩
 case round=>
  obtain⟨k,dk,hk,rfl,hs,hw⟩:=hrel;by_cases hlt:k<m
  ·have hlt8:(k:Int)<(m:Int):=by omega
   have HDZ:Hid (d.size=n):=zh HH.o.size;have HNX:Hid (SwpIn a b (k+1) d (swp dk (a+k) (b+k))):=zh (hs.o.next hab hlt (by rw[HDZ.o];exact hb));have HSW:Hid (∀V,SbIn w0 blk off n dk V->SbIn w0 blk off n (swp dk (a+k) (b+k)) ((V.setCells blk (off+(a+k)*8) (evC dk[b+k]!)).setCells blk (off+(b+k)*8) (evC dk[a+k]!))):=zh (fun V hV=>hV.swap HR.o (by omega) (by omega));have HEV:Hid (∀V,SbIn w0 blk off n dk V->EvAt V blk (off+(a+k)*8) dk[a+k]!/\EvAt V blk (off+(b+k)*8) dk[b+k]!):=zh (fun V hV=>⟨hV.ev HR.o (by omega),hV.ev HR.o (by omega)⟩);have HTH:Hid (∀V,SbIn w0 blk off n dk V->V.there blk (off+(a+k)*8) 8/\V.there blk (off+(b+k)*8) 8):=zh (fun V hV=>⟨hV.there HR.o (by omega),hV.there HR.o (by omega)⟩);obtain⟨⟨s1,n1,t1,k1,p1,i1,v1,x1⟩,hx⟩:∃x,dk[a+k]! = x:=⟨_,rfl⟩
   obtain⟨⟨s2,n2,t2,k2,p2,i2,v2,x2⟩,hy⟩:∃x,dk[b+k]! = x:=⟨_,rfl⟩
   rw[hx,hy]at HSW HEV;have ea:(a:Int)+(k:Int)=((a+k:Nat):Int):=by omega
   have eb:(b:Int)+(k:Int)=((b+k:Nat):Int):=by omega
   have ca:((a+k:Nat):Int)<(n:Int):=by omega
   have cb:((b+k:Nat):Int)<(n:Int):=by omega
   have da:(0:Int)<=((a+k:Nat):Int):=by omega
   have db:(0:Int)<=((b+k:Nat):Int):=by omega
   have HS0:Hid (SbIn w0 blk off n dk wr.drew):=zh hw.o.drew;have HT0:=zh (HTH.o _ HS0.o);obtain⟨qa,hqa⟩:=zG (a+k);obtain⟨qb,hqb⟩:=zG (b+k);rw[hqa]at ea ca da HT0;rw[hqb]at eb cb db HT0;rw[hqa,hqb]at HSW HEV HNX;have wa:IntKind.i64.wrap (qa:Int)=(qa:Int):=by rw[IntKind.wrap_i64];omega
   have wb:IntKind.i64.wrap (qb:Int)=(qb:Int):=by rw[IntKind.wrap_i64];omega
   clear hx hy HTH hs hqa hqb;go_upto_region 3 with fail;refine Zg8 (fun V=>SbIn w0 blk off n dk V) [(4,0),(5,0),(6,0),(7,0),(0,1),(1,1),(2,1),(3,1),(8,1),(9,1),(10,1),(11,1),(12,1),(13,1),(14,1),(15,1),(16,1),(17,1),(18,1),(19,1),(20,1),(21,3),(22,0),(23,3)] (by kernel_rfl) (by kernel_rfl) HS0.o ?_;simp only[planML,xq4,xq5]
   repeat ((first|(refine Zcd _ (by rfl) (fun W _=>by (go_simp;try (first|with_reducible rfl|rw[if_neg (by omega)]))) ?_)|(refine planM_off (by rfl) ?_));simp only[Act.put,xq1,xq2,xq3])
   repeat ((first|(refine Zg7 _ (by rfl) (fun W hW=>by (obtain⟨⟨c0,c1,c2,c3,c4,c5,c6,c7⟩,f0,f1,f2,f3,f4,f5,f6,f7⟩:=HEV.o W hW;go_simp;try (first|with_reducible rfl|rw[if_neg (by omega)]))) ?_)|(refine planM_off (by rfl) ?_));simp only[Act.put,xq1,xq2,xq3])
   refine Zbs ?_;refine Za2 _ rfl EVT _ _ rfl blk (off+qa*8) #[.string s2,.int .i64 n2,.int .i64 t2,.int .i64 k2,.string p2,.string i2,.int .i64 v2,.string x2] rfl rfl HT0.o.1 (by kernel_rfl) (by simp[Value.oneCell']) ?_;refine wpList_nil ?_;simp only[Exit.then]
   repeat ((first|(refine Zcd _ (by rfl) (fun W _=>by (go_simp;try (first|with_reducible rfl|rw[if_neg (by omega)]))) ?_)|(refine planM_off (by rfl) ?_));simp only[Act.put,xq1,xq2,xq3])
   refine Zbs ?_;refine Za2 _ rfl EVT _ _ rfl blk (off+qb*8) #[.string s1,.int .i64 n1,.int .i64 t1,.int .i64 k1,.string p1,.string i1,.int .i64 v1,.string x1] rfl rfl (World.there_setCells HT0.o.2 _ _ _) (by kernel_rfl) (by simp[Value.oneCell']) ?_;refine wpList_nil ?_;simp only[Exit.then];refine Zef ?_;have HEND:=zh (HSW.o _ HS0.o);unfold evC at HEND;clear HSW HT0 HEV;go_wp2_with fail;go_roundw
   case rel=>exact⟨k+1,_,by omega,by go_num,HNX,HEND⟩
   case measure=>simp[intOf];omega
  ·have hlt8:¬(k:Int)<(m:Int):=by omega
   obtain rfl:m=k:=by omega
   go_wp2_with fail;go_end0;exact⟨rfl,dk,hs.o,hw.o⟩
theorem Zf6 (w0:World)(blk off n:Nat)(d0:Array Ev)(R:SbRow w0 blk off n d0)(cap:Nat)(cmp:Value)(a m b:Nat)(d:Array Ev)(W:World)(h:SbIn w0 blk off n d W)(ham:a<m)(hmb:m<b)(hb:b<=n) :
  Calls Tryz.prog 150 #[.slice (some ⟨blk,off,none⟩) n cap,.int .i64 a,.int .i64 m,.int .i64 b,cmp] W fun e w'=>e = .returned (.tuple #[])/\∃d',RotIn a m b d d'/\SbIn w0 blk off n d' w':=by
 have HR:=zh R;have HH:=zh h;have hn:=R.few;have e1:(m:Int) - (a:Int)=((m - a:Nat):Int):=by omega
 have e2:(b:Int) - (m:Int)=((b - m:Nat):Int):=by omega
 clear R h;go_enter Tryz.func150,Tryz.ntmps150;go_wp2_with fail;go_loopw [10,11] (fun vi vj wr=>∃(i j:Nat) (dk:Array Ev),0<i/\0<j/\i<=m - a/\j<=b - m/\vi = .int .i64 i/\vj = .int .i64 j/\Hid (∀d',RotIn (m - i) m (m+j) dk d'->RotIn a m b d d')/\Hid (SbIn w0 blk off n dk wr)) (fun vi vj _=>(intOf vi).toNat+(intOf vj).toNat)
 case atStart=>exact⟨m - a,b - m,d,by omega,by omega,zr _,zr _,rfl,rfl,zh (fun d' h=>by rwa [show m - (m - a)=a by omega,show m+(b - m)=b by omega]at h),HH⟩
 case round=>
  clear e1 e2;obtain⟨i,j,dk,hi0,hj0,him,hjb,rfl,rfl,hgo,hw⟩:=hrel;have ei:(m:Int) - (i:Int)=((m - i:Nat):Int):=by omega
  by_cases hij:i=j
  ·have hq:((i:Int) != (j:Int))=false:=by simp[hij]
   have HC:=zh (Zco w0 blk off n d0 HR.o cap cmp (m - i) m i dk wr hw.o (by omega) (by omega));have HGE:Hid (∀d',RotIn (m - i) m (m+i) dk d'->RotIn a m b d d'):=zh (by rw[<-hij]at hgo;exact hgo.o);clear hij hgo;go_wp2_with fail;refine HC.o.mono ?_;rintro e w1 ⟨rfl,d',hsp,hw1⟩;have HX:=zh (HGE.o d' (RotIn.same hsp (by omega)));have HW1:=zh hw1;clear HC HGE hsp hw1;go_wp2_with fail;go_end0;exact⟨rfl,d',HX.o,HW1.o⟩
  ·have hq:((i:Int) != (j:Int))=true:=by simp;omega
   by_cases hgt:j<i
   ·have hgt8:(j:Int)<(i:Int):=by omega
    have eij:(i:Int) - (j:Int)=((i - j:Nat):Int):=by omega
    have HC:=zh (Zco w0 blk off n d0 HR.o cap cmp (m - i) m j dk wr hw.o (by omega) (by omega));clear hij;go_wp2_with fail;refine HC.o.mono ?_;rintro e w1 ⟨rfl,d',hsp,hw1⟩;have HX:Hid (∀d'',RotIn (m - (i - j)) m (m+j) d' d''->RotIn a m b d d''):=zh (fun d'' h=>hgo.o d'' (RotIn.more hgt (by omega) hsp h));have HW1:=zh hw1;clear HC hsp hw1;go_wp2_with fail;go_roundw
    case rel=>exact⟨i - j,j,d',by omega,hj0,by omega,hjb,rfl,rfl,HX,HW1⟩
    case measure=>simp[intOf];omega
   ·have hgt8:¬(j:Int)<(i:Int):=by omega
    have hlt:i<j:=by omega
    have eji:(j:Int) - (i:Int)=((j - i:Nat):Int):=by omega
    have emj:(m:Int)+(j:Int) - (i:Int)=((m+j - i:Nat):Int):=by omega
    have HC:=zh (Zco w0 blk off n d0 HR.o cap cmp (m - i) (m+j - i) i dk wr hw.o (by omega) (by omega));clear hij;go_wp2_with fail;refine HC.o.mono ?_;rintro e w1 ⟨rfl,d',hsp,hw1⟩;have HX:Hid (∀d'',RotIn (m - i) m (m+(j - i)) d' d''->RotIn a m b d d''):=zh (fun d'' h=>hgo.o d'' (RotIn.less hlt (by omega) hsp h));have HW1:=zh hw1;clear HC hsp hw1;go_wp2_with fail;go_roundw
    case rel=>exact⟨i,j - i,d',hi0,by omega,him,by omega,rfl,rfl,HX,HW1⟩
    case measure=>simp[intOf];omega
end Go.Proofs.YtnpfaajhgghpgaaGreatDoor
