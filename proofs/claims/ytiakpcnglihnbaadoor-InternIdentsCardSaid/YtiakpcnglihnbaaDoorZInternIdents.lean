/- The walk of the law InternIdents. -/

